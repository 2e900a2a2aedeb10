/- The walk of the scanner's method literal. -/
import Derived.Test.YthoccgkkgnlbpaaDoorScan3
import Derived.Test.YthoccgkkgnlbpaaDoorLitSpec
import Derived.Test.YthoccgkkgnlbpaaDoorLawForms
import Derived.StillTailTactics
import Derived.WalkSpells
import Derived.Deep.RegionWith
import Derived.Deep.DeepCutAuto
namespace Go.Proofs.YthoccgkkgnlbpaaDoor
open Go.RowKit

theorem firstIx_lib (c : UInt8) : ∀ l : List UInt8, Lib.indexByte l c = ixV (firstIx c l)
  | [] => rfl
  | x :: l => by
    have ih := firstIx_lib c l
    unfold Lib.indexByte firstIx
    by_cases hx : x = c
    · rw [if_pos hx, if_pos (beq_iff_eq.2 hx)]; rfl
    · rw [if_neg hx, if_neg (fun e => hx (beq_iff_eq.1 e)), ih]
      cases firstIx c l with
      | none => rfl
      | some j =>
        have : ((j : Int) == -1) = false := by rw [beq_eq_false_iff_ne]; omega
        simp [ixV, this]
theorem idxByte_any (q : Addr) (cap n : Nat) (l : List UInt8) (hn : l.length = n) (w : World) (B : Nat) (h : Bys w B (some q) l) :
    Calls Tryd.prog 46 #[.slice (some q) n cap, .int .u8 125] w fun e w' => e = .returned (.int .i64 (ixV (firstIx 125 l))) ∧ w' = w := by
  subst hn
  refine (Tryd.bytes_IndexByte_at q l.length cap (ints l) 125 w (ints_length l) (fun i hi => ?_)).mono ?_
  · obtain ⟨b, o, e, hb, hc⟩ := h (by omega)
    injection e with e
    subst e
    rw [Go.WideShapes.add_plain, hc i hi]; simp [ints, hi]
  · rintro e w' ⟨rfl, rfl⟩
    rw [bytesOf_ints, show (125 : Int).toNat.toUInt8 = 125 from rfl, firstIx_lib]
    exact ⟨rfl, rfl⟩

set_option maxRecDepth 100000 in
theorem clone_any (q : Addr) (cap n : Nat) (l : List UInt8) (hn : l.length = n) (w : World) (h : Bys w w.heap.size (some q) l) (hl : l.length ≤ 1048576) :
    Calls Tryd.prog 47 #[.slice (some q) n cap] w (RetB w l) := by
  subst hn
  obtain ⟨p2, c2, w1, hrun, hc2, hbuf, hb1⟩ := own_copy w (some q) cap l h hl
  have HR := Lib.hid hrun
  have HB := Lib.hid (And.intro hbuf hb1)
  have en := Lib.run_eql_slice_nil (P := Tryd.prog)
  clear h hl hrun hbuf hb1 hc2
  generalize hn : l.length = n at *
  have HN := Lib.hid hn
  clear hn
  go_enter Tryd.func47, Tryd.ntmps47
  go_wp2_with (at_builtin; refine wpList_append_run _ rfl (.tmp 5) (.tmp 6) _ _ rfl _ _ rfl rfl _ _ HR.out ?_)
  go_ret
  exact ⟨_, rfl, by rw [HN.out]; exact HB.out.1, HB.out.2⟩

theorem numV_get (o : Option Nat) : numV o = .tuple #[.int .u32 ((o.getD 0 : Nat) : Int), .bool o.isSome] := by cases o <;> rfl
/-- What 'is' leaves at a byte that is there. -/
theorem is_st {w0 w : World} {g p o n c k : Nat} {out : Value} {m : List UInt8} {x v : Int} {b : Bool} (h : St w0 w g (some ⟨p, o, none⟩) n c (k : Int) out m) (hk : k < n) (hn : n ≤ 1048576) (hx : w.cell? ⟨p, o + k, none⟩ = some (.int .u8 x)) (hg : p ≠ g) (hv : (x == v) = b) :
    Calls Tryd.prog 44 #[.pointer (some ⟨g, 0, none⟩), .int .u8 v] w fun e w' => e = .returned (.bool b) ∧ St w0 w' g (some ⟨p, o, none⟩) n c ((k + 1 : Nat) : Int) out m :=
  (is_yes g p o n c k x v b out w h.1 hk hn hx hg hv).mono fun e w' ⟨he, i, hi⟩ => ⟨he, by
    have := h.take hi
    rw [show ((k : Int) + 1) = ((k + 1 : Nat) : Int) by omega] at this
    exact this⟩
theorem is_st0 {w0 w : World} {g n c : Nat} {P : Option Addr} {k : Int} {out : Value} {m : List UInt8} (v : Int) (h : St w0 w g P n c k out m) (hk : k < 0 ∨ (n : Int) ≤ k) :
    Calls Tryd.prog 44 #[.pointer (some ⟨g, 0, none⟩), .int .u8 v] w fun e w' => e = .returned (.bool false) ∧ St w0 w' g P n c k out m :=
  (is_no g P n c k v out w h.1 hk).mono fun e w' ⟨he, i, hi⟩ => ⟨he, by subst hi; exact h.drewN i⟩
/-- The scanner's cells, as the walk asks for them. -/
theorem St.cells {w0 w : World} {g n c : Nat} {P : Option Addr} {k : Int} {out : Value} {m : List UInt8} (h : St w0 w g P n c k out m) :
    w.cell? ⟨g, 0, none⟩ = some (.slice P n c) ∧ w.cell? ⟨g, 1, none⟩ = some (.int .i64 k) ∧ w.cell? ⟨g, 2, none⟩ = some out ∧ w.frozen? ⟨g, 1, none⟩ = false ∧ w.frozen? ⟨g, 2, none⟩ = false := by
  refine ⟨?_, ?_, ?_, h.1.frz 1, h.1.frz 2⟩ <;> · rw [h.1.cell]; rfl

theorem is_false {w0 w : World} {g p o n c k : Nat} {out : Value} {m l : List UInt8} (v : UInt8) (h : St w0 w g (some ⟨p, o, none⟩) n c (k : Int) out m) (hb : Bys w0 g (some ⟨p, o, none⟩) l) (hn : l.length = n) (hn5 : n ≤ 1048576) (hpg : p ≠ g) (hx : ¬ l[k]? = some v) :
    Calls Tryd.prog 44 #[.pointer (some ⟨g, 0, none⟩), .int .u8 (v.toNat : Int)] w fun e w' => e = .returned (.bool false) ∧ Below g w0 w' := by
  by_cases hk : k < n
  · obtain ⟨b2, o2, e, hb2, hc⟩ := hb (by omega)
    injection e with e
    injection e with e1 e2
    subst e1 e2
    have hkl : k < l.length := by omega
    have hne : l[k] ≠ v := fun e => hx (by rw [List.getElem?_eq_getElem hkl, e])
    have hcell : w.cell? ⟨p, o + k, none⟩ = some (.int .u8 (l[k].toNat : Int)) := by rw [h.2.2.cell (p := ⟨p, o + k, none⟩) hb2]; exact hc k hkl
    refine (is_st (v := (v.toNat : Int)) (b := false) h hk hn5 hcell hpg (by rw [beq_eq_false_iff_ne]; exact fun e => hne (UInt8.toNat_inj.1 (by omega)))).mono ?_
    rintro e w' ⟨he, hs⟩
    exact ⟨he, hs.2.2⟩
  · refine (is_st0 (v.toNat : Int) h (.inr (by omega))).mono ?_
    rintro e w' ⟨he, hs⟩
    exact ⟨he, hs.2.2⟩
theorem is_true {w0 w : World} {g p o n c k : Nat} {out : Value} {m l : List UInt8} (v : UInt8) (h : St w0 w g (some ⟨p, o, none⟩) n c (k : Int) out m) (hb : Bys w0 g (some ⟨p, o, none⟩) l) (hn : l.length = n) (hn5 : n ≤ 1048576) (hpg : p ≠ g) (hx : l[k]? = some v) :
    Calls Tryd.prog 44 #[.pointer (some ⟨g, 0, none⟩), .int .u8 (v.toNat : Int)] w fun e w' => e = .returned (.bool true) ∧ St w0 w' g (some ⟨p, o, none⟩) n c ((k + 1 : Nat) : Int) out m := by
  obtain ⟨hkl, hxe⟩ := List.getElem?_eq_some_iff.1 hx
  obtain ⟨b2, o2, e, hb2, hc⟩ := hb (by omega)
  injection e with e
  injection e with e1 e2
  subst e1 e2
  have hcell : w.cell? ⟨p, o + k, none⟩ = some (.int .u8 (l[k].toNat : Int)) := by rw [h.2.2.cell (p := ⟨p, o + k, none⟩) hb2]; exact hc k hkl
  exact is_st (v := (v.toNat : Int)) (b := true) h (by omega) hn5 hcell hpg (by rw [hxe, beq_iff_eq])
theorem St.put {w0 w : World} {g n c : Nat} {P : Option Addr} {k : Int} {out v : Value} {m m' : List UInt8} (h : St w0 w g P n c k out m) (hv : Buf w (g + 1) 1 v m'.length (Lib.byteCells m')) : St w0 (w.setCell ⟨g, 2, none⟩ v) g P n c k v m' :=
  ⟨h.1.put 2 v, hv.far (p := ⟨g, 2, none⟩) (fun e => by have := hv.not_own g e; omega) v, h.2.2.setCell (p := ⟨g, 2, none⟩) (Nat.le_refl _) _⟩

set_option maxRecDepth 100000 in
set_option maxHeartbeats 6400000 in
theorem sLiteral_any (w0 : World) (g : Nat) (P : Option Addr) (l : List UInt8) (c : Nat) (a : Int) (w : World) (h : St w0 w g P l.length c a (.slice none 0 0) []) (hb : Bys w0 g P l) (hl : l.length ≤ 1048576) (hlc : l.length ≤ c) (hS : Std w0) (hgw : w0.heap.size ≤ g) :
    Calls Tryd.prog 38 #[.pointer (some ⟨g, 0, none⟩)] w (ScanPost w0 g P l.length c (scanL l a)) := by
  by_cases ha : a < 0 ∨ (l.length : Int) ≤ a
  · rw [scanL_no l a ha]
    have HI := Lib.hid (is_st0 123 h ha)
    clear h hb ha hl hlc hS
    go_enter Tryd.func38, Tryd.ntmps38
    go_wp2_with fail
    refine HI.out.mono ?_
    rintro e w1 ⟨rfl, hs⟩
    have HB := Lib.hid hs.2.2
    clear hs
    go_wp2_with fail
    go_ret
    exact ⟨rfl, HB.out⟩
  · obtain ⟨k, rfl⟩ := Int.eq_ofNat_of_zero_le (show 0 ≤ a by omega)
    have hk : k < l.length := by omega
    obtain ⟨p, o, rfl, hp, hc⟩ := hb (by omega)
    have hcw : ∀ w', Below g w0 w' → ∀ i (hi : i < l.length), w'.cell? ⟨p, o + i, none⟩ = some (.int .u8 (l[i].toNat : Int)) := fun w' hw i hi => by rw [hw.cell (p := ⟨p, o + i, none⟩) hp]; exact hc i hi
    have HCW := Lib.hid hcw
    have HBY := Lib.hid hb
    have hpg : p ≠ g := by omega
    by_cases e123 : l[k] = 123
    · have HI := Lib.hid (is_st (v := 123) (b := true) h hk hl (hcw w h.2.2 k hk) hpg (by rw [e123]; rfl))
      obtain ⟨r, hr⟩ : ∃ r, scanL l k = r := ⟨_, rfl⟩
      rw [hr]
      have HR := Lib.hid hr
      have HE := Lib.hid (show ∃ h : k < l.length, l[k] = 123 from ⟨hk, e123⟩)
      obtain ⟨n, hn⟩ : ∃ n, l.length = n := ⟨_, rfl⟩
      have HN := Lib.hid hn
      have hkn : k < n := by omega
      have hn5 : n ≤ 1048576 := by omega
      have hnc : n ≤ c := by omega
      rw [hn] at HI ⊢
      clear hcw hc hb h ha e123 hr hk hl hlc hn
      have HS0 := Lib.hid hS
      clear hS
      by_cases hck : c = k + 1
      · subst hck
        have hnk : n = k + 1 := by omega
        have R : Hid (r = none) := Lib.hid (by
          rw [← HR.out]
          obtain ⟨q1, q2⟩ := HE.out
          refine scanL_nomark q1 q2 ?_
          rw [List.drop_of_length_le (by have := HN.out; omega)]; rfl)
        have HIX := Lib.hid (fun w => idxByte_any ⟨p, o, none⟩ 0 0 [] rfl w g (Bys.nil _ _ _))
        subst hnk
        go_enter Tryd.func38, Tryd.ntmps38
        go_wp2_with fail
        refine HI.out.mono ?_
        rintro e w1 ⟨rfl, hs⟩
        obtain ⟨c0, c1, c2, f1, f2⟩ := hs.cells
        have HS := Lib.hid hs
        clear hs
        go_wp2_with fail
        go_quiet ((go_at_call 46; exact Calls.quiet_of_same (HIX.out _)))
        rw [show ixV (firstIx 125 []) = -1 from rfl]
        go_wp2_with fail
        go_ret
        rw [R.out]
        exact ⟨rfl, YthoccgkkgnlbpaaDoor.Below.many HS.out.2.2 nq⟩
      · have HBR := Lib.hid (HBY.out.from (k + 1))
        have hrl : (l.drop (k + 1)).length = n - (k + 1) := by rw [List.length_drop]; have := HN.out; omega
        have HRL := Lib.hid hrl
        have hk1 : k + 1 ≤ n := by omega
        have hkc : k + 1 ≤ c := by omega
        have HIX := Lib.hid (fun w' (hw : Below g w0 w') => idxByte_any ⟨p, o + (k + 1), none⟩ (c - (k + 1)) (n - (k + 1)) (l.drop (k + 1)) hrl w' g (HBR.out.belowle hw (Nat.le_refl _)))
        clear hrl
        cases hf : firstIx 125 (l.drop (k + 1)) with
        | none =>
          rw [hf] at HIX
          have R : Hid (r = none) := Lib.hid (by
            rw [← HR.out]
            obtain ⟨q1, q2⟩ := HE.out
            exact scanL_nomark q1 q2 hf)
          rw [show ixV none = -1 from rfl] at HIX
          clear hf
          go_enter Tryd.func38, Tryd.ntmps38
          go_wp2_with fail
          refine HI.out.mono ?_
          rintro e w1 ⟨rfl, hs⟩
          obtain ⟨c0, c1, c2, f1, f2⟩ := hs.cells
          have HS := Lib.hid hs
          clear hs
          go_wp2_with fail
          go_quiet ((go_at_call 46; exact Calls.quiet_of_same (HIX.out _ (YthoccgkkgnlbpaaDoor.Below.many HS.out.2.2 _))))
          go_wp2_with fail
          go_ret
          rw [R.out]
          exact ⟨rfl, YthoccgkkgnlbpaaDoor.Below.many HS.out.2.2 nq⟩
        | some j =>
          rw [hf] at HIX
          rw [show ixV (some j) = (j : Int) from rfl] at HIX
          obtain ⟨a1, b1, e1, ha1, _⟩ := firstIx_some hf
          have hjn : k + 1 + j + 1 ≤ n := by
            have := congrArg List.length e1
            rw [HRL.out] at this
            simp at this
            omega
          have R1 : Hid (numB ((l.drop (k + 1)).take j) = none → r = none) := Lib.hid (fun hnb => by
            rw [← HR.out]
            obtain ⟨q1, q2⟩ := HE.out
            exact scanL_nonum q1 q2 hf hnb)
          have R2 : Hid (∀ v, numB ((l.drop (k + 1)).take j) = some v → r = if v ≤ 65536 ∧ l[k + 1 + j + 1]? = some 13 ∧ l[k + 1 + j + 2]? = some 10 ∧ k + 1 + j + 3 + v ≤ l.length then some ((l.drop (k + 1 + j + 3)).take v, k + 1 + j + 3 + v) else none) := Lib.hid (fun v hnb => by
            rw [← HR.out]
            obtain ⟨q1, q2⟩ := HE.out
            exact scanL_num q1 q2 hf hnb)
          have HBT := Lib.hid (HBR.out.upto j)
          have htl : ((l.drop (k + 1)).take j).length = j := by rw [List.length_take, HRL.out]; omega
          have HCV := Lib.hid (fun W (hW : Below g w0 W) (cc : Nat) => conv_bys (P := Tryd.prog) (HBT.out.belowle hW (Nat.le_refl _)) cc Tryd.underlying22 Tryd.underlying5 Tryd.underlying9)
          have HNU := Lib.hid (fun W (hW : Below g w0 W) => number_any (ofL ((l.drop (k + 1)).take j)) W (by show (List.toArray _).size ≤ _; rw [List.size_toArray, htl]; omega) (HS0.out.below (hW.mono hgw)))
          rw [htl] at HCV
          rw [ofL_data] at HNU
          have hkt : 1 ≤ k + 1 := by omega
          clear htl hf e1 ha1 HE HR HRL hck hkn
          rw [Option.map_some, Go.WideShapes.add_plain] at HCV
          generalize k + 1 = t at *
          have q1 : (IntKind.i64.wrap ((t : Int) + j)) = (t : Int) + j := IntWalk.i64_in _ (by omega)
          have q2 : 0 ≤ (t : Int) + j := by omega
          have q3 : ((t : Int) + j).toNat = t + j := by omega
          have q4 : (t : Int) + j ≤ c := by omega
          have Q := Lib.hid (And.intro q1 (And.intro q2 (And.intro q3 q4)))
          clear q1 q2 q3 q4
          go_enter Tryd.func38, Tryd.ntmps38
          go_wp2_with fail
          refine HI.out.mono ?_
          rintro e w1 ⟨rfl, hs⟩
          obtain ⟨c0, c1, c2, f1, f2⟩ := hs.cells
          have HS := Lib.hid hs
          clear hs
          go_wp2_with fail
          go_quiet ((go_at_call 46; exact Calls.quiet_of_same (HIX.out _ (YthoccgkkgnlbpaaDoor.Below.many HS.out.2.2 _))))
          go_wp2_with fail
          change Code.wp _ _ _ _ (w1.drewN nq)
          have hs1 := HS.out.drewN nq
          generalize w1.drewN nq = w2 at hs1 ⊢
          have HS1 := Lib.hid hs1
          clear hs1 c0 c1 c2 f1 f2
          have HNU2 := Lib.hid (fun W (hW : Below g w0 W) => by have := HNU.out W hW; rw [numV_get] at this; exact this)
          have hv32 : (numB ((l.drop t).take j)).getD 0 < 4294967296 := by
            cases hnb : numB ((l.drop t).take j) with
            | none => decide
            | some v => exact numB_le hnb
          have R1' : Hid ((numB ((l.drop t).take j)).isSome = false → r = none) := Lib.hid (fun h => R1.out (by simpa using h))
          have R2' : Hid ((numB ((l.drop t).take j)).isSome = true → r = if (numB ((l.drop t).take j)).getD 0 ≤ 65536 ∧ l[t + j + 1]? = some 13 ∧ l[t + j + 2]? = some 10 ∧ t + j + 3 + (numB ((l.drop t).take j)).getD 0 ≤ l.length then some ((l.drop (t + j + 3)).take ((numB ((l.drop t).take j)).getD 0), t + j + 3 + (numB ((l.drop t).take j)).getD 0) else none) := Lib.hid (fun h => by
            obtain ⟨v, hv⟩ := Option.isSome_iff_exists.1 h
            rw [hv]
            exact R2.out v hv)
          clear R1 R2 HNU
          generalize (numB ((l.drop t).take j)).isSome = nb at *
          generalize (numB ((l.drop t).take j)).getD 0 = v at *
          go_upto_region 6 with fail
          go_cut [4, 5] (fun s4 s5 wx => s4 = .int .u32 v ∧ s5 = .bool nb ∧ St w0 wx g (some ⟨p, o, none⟩) n c (t : Int) (.slice none 0 0) [])
          case first =>
            obtain ⟨c0, c1, c2, f1, f2⟩ := HS1.out.cells
            obtain ⟨q1, q2, q3, q4⟩ := Q.out
            have hcv1 := HCV.out w2.drew (YthoccgkkgnlbpaaDoor.Below.many HS1.out.2.2 1) (c - t)
            go_region_with (go_at_call 26; refine (HNU2.out _ ?_).mono ?_; exact YthoccgkkgnlbpaaDoor.Below.many HS1.out.2.2 1; rintro e w3 ⟨rfl, hb3⟩; have HB3 := Lib.hid hb3; clear hb3)
            all_goals
              go_wp2_with fail
              go_meet
              exact ⟨rfl, rfl, (HS1.out.drewN 1).below HB3.out⟩
          case rest =>
            obtain ⟨rfl, rfl, hst⟩ := hcut
            obtain ⟨c0, c1, c2, f1, f2⟩ := hst.cells
            have HST := Lib.hid hst
            clear hst HNU2 HCV HS1 HS HIX HI Q
            go_wp2_with fail
            change Code.wp _ _ _ _ (wc.setCell ⟨g, 1, none⟩ (.int .i64 ((t : Int) + (j + 1))))
            have hs3 := HST.out.take (w' := wc.setCell ⟨g, 1, none⟩ (.int .i64 ((t : Int) + (j + 1)))) (i := 0) rfl
            generalize wc.setCell ⟨g, 1, none⟩ (.int .i64 ((t : Int) + (j + 1))) = w4 at hs3 ⊢
            rw [show ((t : Int) + (j + 1)) = ((t + j + 1 : Nat) : Int) by omega] at hs3
            have HS3 := Lib.hid hs3
            clear hs3 c0 c1 c2 f1 f2 HST
            cases nb with
            | false =>
              have R := Lib.hid (R1'.out rfl)
              go_quiet (fail)
              go_wp2_with fail
              go_ret
              rw [R.out]
              exact ⟨rfl, YthoccgkkgnlbpaaDoor.Below.many HS3.out.2.2 nq⟩
            | true =>
              have R0 := Lib.hid (R2'.out rfl)
              clear R1' R2'
              by_cases hv : v ≤ 65536
              · have hv2 : decide (65536 < (v : Int)) = false := decide_eq_false (by omega)
                have hv3 : decide (65536 < v) = false := decide_eq_false (by omega)
                by_cases h13 : l[t + j + 1]? = some 13
                · have H13 := Lib.hid (fun W (hW : St w0 W g (some ⟨p, o, none⟩) n c ((t + j + 1 : Nat) : Int) (.slice none 0 0) []) => is_true 13 hW HBY.out HN.out hn5 hpg h13)
                  rw [show ((13 : UInt8).toNat : Int) = 13 from rfl] at H13
                  by_cases h10 : l[t + j + 2]? = some 10
                  · have H10 := Lib.hid (fun W (hW : St w0 W g (some ⟨p, o, none⟩) n c ((t + j + 1 + 1 : Nat) : Int) (.slice none 0 0) []) => is_true 10 hW HBY.out HN.out hn5 hpg h10)
                    rw [show ((10 : UInt8).toNat : Int) = 10 from rfl] at H10
                    have h3n : t + j + 3 ≤ n := by
                      have := (List.getElem?_eq_some_iff.1 h10).1
                      have := HN.out
                      omega
                    obtain ⟨a3, ha3⟩ : ∃ a3, a3 = t + j + 3 := ⟨_, rfl⟩
                    have HA3 := Lib.hid ha3
                    have q1 : (IntKind.i64.wrap ((n : Int) - a3)) = (n : Int) - a3 := IntWalk.i64_in _ (by omega)
                    have q2 : (IntKind.i64.wrap ((a3 : Int) + v)) = (a3 : Int) + v := IntWalk.i64_in _ (by omega)
                    have q3 : 0 ≤ (a3 : Int) + v := by omega
                    have q4 : ((a3 : Int) + v).toNat = a3 + v := by omega
                    have ha3n : a3 ≤ n := by omega
                    have q5 : (IntKind.i64.wrap (v : Int)) = (v : Int) := IntWalk.i64_in _ (by omega)
                    have Q := Lib.hid (And.intro q1 (And.intro q2 (And.intro q3 (And.intro q4 q5))))
                    rw [show t + j + 1 + 1 + 1 = a3 by omega] at H10
                    clear q1 q2 q3 q4 q5 ha3 h3n
                    by_cases hvn : a3 + v ≤ n
                    · have R : Hid (r = some ((l.drop a3).take v, a3 + v)) := Lib.hid (by rw [R0.out, if_pos ⟨hv, h13, h10, by have := HN.out; have := HA3.out; omega⟩, HA3.out])
                      have hw1 : decide ((n : Int) - a3 < v) = false := decide_eq_false (by omega)
                      clear h13 h10 hv R0
                      go_cut [97] (fun s97 wx => s97 = .bool false ∧ St w0 wx g (some ⟨p, o, none⟩) n c (a3 : Int) (.slice none 0 0) [])
                      case first =>
                        obtain ⟨q1, q2, q3, q4, q5⟩ := Q.out
                        refine wp_region_any (by kernel_rfl) ?_
                        change wpAny _ _ _ _ _ _ _ (World.drew _)
                        refine wpAny_take (i := 0) (v := ?_) rfl (by kernel_rfl) (by kernel_rfl) (by kernel_rfl) (fun _ _ _ h => h) (Or.inl ⟨by rfl, ?_⟩) ?_
                        rotate_left
                        · intro w; go_simp
                          try with_reducible rfl
                        simp only [List.getElem_toArray, List.getElem_cons_zero, Act.put, List.setIfInBounds_toArray, List.set_cons_zero, List.set_cons_succ]
                        refine wpAny_take (i := 1) (v := ?_) rfl (by kernel_rfl) (by kernel_rfl) (by kernel_rfl) (fun _ _ _ h => h) (Or.inl ⟨by rfl, ?_⟩) ?_
                        rotate_left
                        · intro w; go_simp
                          try with_reducible rfl
                        simp only [List.getElem_toArray, List.getElem_cons_zero, List.getElem_cons_succ, Act.put, List.setIfInBounds_toArray, List.set_cons_zero, List.set_cons_succ]
                        refine wpAny_take (i := 2) (v := ?_) rfl (by kernel_rfl) (by kernel_rfl) (by kernel_rfl) (fun _ _ _ h => h) (Or.inl ⟨by rfl, ?_⟩) ?_
                        rotate_left
                        · intro w; go_simp
                          try with_reducible rfl
                        simp only [List.getElem_toArray, List.getElem_cons_zero, List.getElem_cons_succ, Act.put, List.setIfInBounds_toArray, List.set_cons_zero, List.set_cons_succ]
                        refine wpAny_take (i := 3) (v := ?_) rfl (by kernel_rfl) (by kernel_rfl) (by kernel_rfl) (fun _ _ _ h => h) (Or.inl ⟨by rfl, ?_⟩) ?_
                        rotate_left
                        · intro w; go_simp
                          try with_reducible rfl
                        simp only [List.getElem_toArray, List.getElem_cons_zero, List.getElem_cons_succ, Act.put, List.setIfInBounds_toArray, List.set_cons_zero, List.set_cons_succ]
                        refine wpAny_take (i := 4) (v := ?_) rfl (by kernel_rfl) (by kernel_rfl) (by kernel_rfl) (fun _ _ _ h => h) (Or.inl ⟨by rfl, ?_⟩) ?_
                        rotate_left
                        · intro w; go_simp
                          try with_reducible rfl
                        simp only [List.getElem_toArray, List.getElem_cons_zero, List.getElem_cons_succ, Act.put, List.setIfInBounds_toArray, List.set_cons_zero, List.set_cons_succ]
                        refine wpAny_take (i := 5) (v := ?_) rfl (by kernel_rfl) (by kernel_rfl) (by kernel_rfl) (fun _ _ _ h => h) (Or.inl ⟨by rfl, ?_⟩) ?_
                        rotate_left
                        · intro w; go_simp
                          try with_reducible rfl
                        simp only [List.getElem_toArray, List.getElem_cons_zero, List.getElem_cons_succ, Act.put, List.setIfInBounds_toArray, List.set_cons_zero, List.set_cons_succ]
                        refine wpAny_take (i := 6) (v := ?_) rfl (by kernel_rfl) (by kernel_rfl) (by kernel_rfl) (fun _ _ _ h => h) (Or.inl ⟨by rfl, ?_⟩) ?_
                        rotate_left
                        · intro w; go_simp
                          try with_reducible rfl
                        simp only [List.getElem_toArray, List.getElem_cons_zero, List.getElem_cons_succ, Act.put, List.setIfInBounds_toArray, List.set_cons_zero, List.set_cons_succ]
                        refine wpAny_take (i := 10) (v := ?_) rfl (by kernel_rfl) (by kernel_rfl) (by kernel_rfl) (fun _ _ _ h => h) (Or.inl ⟨by rfl, ?_⟩) ?_
                        rotate_left
                        · intro w; go_simp
                          try with_reducible rfl
                        simp only [List.getElem_toArray, List.getElem_cons_zero, List.getElem_cons_succ, Act.put, List.setIfInBounds_toArray, List.set_cons_zero, List.set_cons_succ]
                        refine wpAny_take (i := 7) (v := ?_) rfl (by kernel_rfl) (by kernel_rfl) (by kernel_rfl) (fun _ _ _ h => h) (Or.inl ⟨by rfl, ?_⟩) ?_
                        rotate_left
                        · intro w; go_simp
                          try with_reducible rfl
                        simp only [List.getElem_toArray, List.getElem_cons_zero, List.getElem_cons_succ, Act.put, List.setIfInBounds_toArray, List.set_cons_zero, List.set_cons_succ]
                        refine wpAny_take (i := 8) (v := ?_) rfl (by kernel_rfl) (by kernel_rfl) (by kernel_rfl) (fun _ _ _ h => h) (Or.inl ⟨by rfl, ?_⟩) ?_
                        rotate_left
                        · intro w; go_simp
                          try with_reducible rfl
                        simp only [List.getElem_toArray, List.getElem_cons_zero, List.getElem_cons_succ, Act.put, List.setIfInBounds_toArray, List.set_cons_zero, List.set_cons_succ]
                        refine wpAny_take (i := 9) (v := ?_) rfl (by kernel_rfl) (by kernel_rfl) (by kernel_rfl) (fun _ _ _ h => h) (Or.inl ⟨by rfl, ?_⟩) ?_
                        rotate_left
                        · intro w; go_simp
                          try with_reducible rfl
                        simp only [List.getElem_toArray, List.getElem_cons_zero, List.getElem_cons_succ, Act.put, List.setIfInBounds_toArray, List.set_cons_zero, List.set_cons_succ]
                        refine wpAny_ready (rs := [11]) (by kernel_rfl) (by simp) ?_
                        refine AllReady.cons rfl (fun K hK => ?_) AllReady.nil
                        go_simp
                        go_wp2_with (go_at_call 44; refine (H13.out _ ?_).mono ?_; exact HS3.out.drewN 1; rintro e w5 ⟨rfl, hs5⟩; have HS5 := Lib.hid hs5; clear hs5)
                        refine wpAny_take (i := 12) (v := ?_) rfl (by kernel_rfl) (by kernel_rfl) (by kernel_rfl) (fun _ _ _ h => h) (Or.inl ⟨by rfl, ?_⟩) ?_
                        rotate_left
                        · intro w; go_simp
                          try with_reducible rfl
                        simp only [List.getElem_toArray, List.getElem_cons_zero, List.getElem_cons_succ, Act.put, List.setIfInBounds_toArray, List.set_cons_zero, List.set_cons_succ]
                        refine wpAny_take (i := 13) (v := ?_) rfl (by kernel_rfl) (by kernel_rfl) (by kernel_rfl) (fun _ _ _ h => h) (Or.inl ⟨by rfl, ?_⟩) ?_
                        rotate_left
                        · intro w; go_simp
                          try with_reducible rfl
                        simp only [List.getElem_toArray, List.getElem_cons_zero, List.getElem_cons_succ, Act.put, List.setIfInBounds_toArray, List.set_cons_zero, List.set_cons_succ]
                        refine wpAny_take (i := 14) (v := ?_) rfl (by kernel_rfl) (by kernel_rfl) (by kernel_rfl) (fun _ _ _ h => h) (Or.inl ⟨by rfl, ?_⟩) ?_
                        rotate_left
                        · intro w; go_simp
                          try with_reducible rfl
                        simp only [List.getElem_toArray, List.getElem_cons_zero, List.getElem_cons_succ, Act.put, List.setIfInBounds_toArray, List.set_cons_zero, List.set_cons_succ]
                        refine wpAny_take (i := 18) (v := ?_) rfl (by kernel_rfl) (by kernel_rfl) (by kernel_rfl) (fun _ _ _ h => h) (Or.inl ⟨by rfl, ?_⟩) ?_
                        rotate_left
                        · intro w; go_simp
                          try with_reducible rfl
                        simp only [List.getElem_toArray, List.getElem_cons_zero, List.getElem_cons_succ, Act.put, List.setIfInBounds_toArray, List.set_cons_zero, List.set_cons_succ]
                        refine wpAny_take (i := 15) (v := ?_) rfl (by kernel_rfl) (by kernel_rfl) (by kernel_rfl) (fun _ _ _ h => h) (Or.inl ⟨by rfl, ?_⟩) ?_
                        rotate_left
                        · intro w; go_simp
                          try with_reducible rfl
                        simp only [List.getElem_toArray, List.getElem_cons_zero, List.getElem_cons_succ, Act.put, List.setIfInBounds_toArray, List.set_cons_zero, List.set_cons_succ]
                        refine wpAny_take (i := 16) (v := ?_) rfl (by kernel_rfl) (by kernel_rfl) (by kernel_rfl) (fun _ _ _ h => h) (Or.inl ⟨by rfl, ?_⟩) ?_
                        rotate_left
                        · intro w; go_simp
                          try with_reducible rfl
                        simp only [List.getElem_toArray, List.getElem_cons_zero, List.getElem_cons_succ, Act.put, List.setIfInBounds_toArray, List.set_cons_zero, List.set_cons_succ]
                        refine wpAny_take (i := 17) (v := ?_) rfl (by kernel_rfl) (by kernel_rfl) (by kernel_rfl) (fun _ _ _ h => h) (Or.inl ⟨by rfl, ?_⟩) ?_
                        rotate_left
                        · intro w; go_simp
                          try with_reducible rfl
                        simp only [List.getElem_toArray, List.getElem_cons_zero, List.getElem_cons_succ, Act.put, List.setIfInBounds_toArray, List.set_cons_zero, List.set_cons_succ]
                        refine wpAny_ready (rs := [19]) (by kernel_rfl) (by simp) ?_
                        refine AllReady.cons rfl (fun K hK => ?_) AllReady.nil
                        go_simp
                        go_wp2_with (go_at_call 44; refine (H10.out _ ?_).mono ?_; exact HS5.out; rintro e w6 ⟨rfl, hs6⟩; have HS6 := Lib.hid hs6; clear hs6)
                        refine wpAny_take (i := 20) (v := ?_) rfl (by kernel_rfl) (by kernel_rfl) (by kernel_rfl) (fun _ _ _ h => h) (Or.inl ⟨by rfl, ?_⟩) ?_
                        rotate_left
                        · intro w; go_simp
                          try with_reducible rfl
                        simp only [List.getElem_toArray, List.getElem_cons_zero, List.getElem_cons_succ, Act.put, List.setIfInBounds_toArray, List.set_cons_zero, List.set_cons_succ]
                        refine wpAny_take (i := 21) (v := ?_) rfl (by kernel_rfl) (by kernel_rfl) (by kernel_rfl) (fun _ _ _ h => h) (Or.inl ⟨by rfl, ?_⟩) ?_
                        rotate_left
                        · intro w; go_simp
                          try with_reducible rfl
                        simp only [List.getElem_toArray, List.getElem_cons_zero, List.getElem_cons_succ, Act.put, List.setIfInBounds_toArray, List.set_cons_zero, List.set_cons_succ]
                        refine wpAny_take (i := 22) (v := ?_) rfl (by kernel_rfl) (by kernel_rfl) (by kernel_rfl) (fun _ _ _ h => h) (Or.inl ⟨by rfl, ?_⟩) ?_
                        rotate_left
                        · intro w; go_simp
                          try with_reducible rfl
                        simp only [List.getElem_toArray, List.getElem_cons_zero, List.getElem_cons_succ, Act.put, List.setIfInBounds_toArray, List.set_cons_zero, List.set_cons_succ]
                        refine wpAny_take (i := 23) (v := ?_) rfl (by kernel_rfl) (by kernel_rfl) (by kernel_rfl) (fun _ _ _ h => h) (Or.inl ⟨by rfl, ?_⟩) ?_
                        rotate_left
                        · intro w; go_simp
                          try with_reducible rfl
                        simp only [List.getElem_toArray, List.getElem_cons_zero, List.getElem_cons_succ, Act.put, List.setIfInBounds_toArray, List.set_cons_zero, List.set_cons_succ]
                        refine wpAny_take (i := 24) (v := ?_) rfl (by kernel_rfl) (by kernel_rfl) (by kernel_rfl) (fun _ _ _ h => h) (Or.inl ⟨by rfl, ?_⟩) ?_
                        rotate_left
                        · intro w; go_simp
                          try with_reducible rfl
                        simp only [List.getElem_toArray, List.getElem_cons_zero, List.getElem_cons_succ, Act.put, List.setIfInBounds_toArray, List.set_cons_zero, List.set_cons_succ]
                        refine wpAny_take (i := 25) (v := ?_) rfl (by kernel_rfl) (by kernel_rfl) (by kernel_rfl) (fun _ _ _ h => h) (Or.inl ⟨by rfl, ?_⟩) ?_
                        rotate_left
                        · intro w; go_simp
                          try with_reducible rfl
                        simp only [List.getElem_toArray, List.getElem_cons_zero, List.getElem_cons_succ, Act.put, List.setIfInBounds_toArray, List.set_cons_zero, List.set_cons_succ]
                        refine wpAny_take (i := 26) (v := ?_) rfl (by kernel_rfl) (by kernel_rfl) (by kernel_rfl) (fun _ _ _ h => h) (Or.inl ⟨by rfl, ?_⟩) ?_
                        rotate_left
                        · intro w; go_simp
                          try with_reducible rfl
                        simp only [List.getElem_toArray, List.getElem_cons_zero, List.getElem_cons_succ, Act.put, List.setIfInBounds_toArray, List.set_cons_zero, List.set_cons_succ]
                        refine wpAny_take (i := 27) (v := ?_) rfl (by kernel_rfl) (by kernel_rfl) (by kernel_rfl) (fun _ _ _ h => h) (Or.inl ⟨by rfl, ?_⟩) ?_
                        rotate_left
                        · intro w; go_simp
                          try with_reducible rfl
                        simp only [List.getElem_toArray, List.getElem_cons_zero, List.getElem_cons_succ, Act.put, List.setIfInBounds_toArray, List.set_cons_zero, List.set_cons_succ]
                        refine wpAny_take (i := 28) (v := ?_) rfl (by kernel_rfl) (by kernel_rfl) (by kernel_rfl) (fun _ _ _ h => h) (Or.inl ⟨by rfl, ?_⟩) ?_
                        rotate_left
                        · intro w; go_simp
                          try with_reducible rfl
                        simp only [List.getElem_toArray, List.getElem_cons_zero, List.getElem_cons_succ, Act.put, List.setIfInBounds_toArray, List.set_cons_zero, List.set_cons_succ]
                        refine wpAny_take (i := 31) (v := ?_) rfl (by kernel_rfl) (by kernel_rfl) (by kernel_rfl) (fun _ _ _ h => h) (Or.inl ⟨by rfl, ?_⟩) ?_
                        rotate_left
                        · intro w; go_simp
                          try with_reducible rfl
                        simp only [List.getElem_toArray, List.getElem_cons_zero, List.getElem_cons_succ, Act.put, List.setIfInBounds_toArray, List.set_cons_zero, List.set_cons_succ]
                        refine wpAny_take (i := 32) (v := ?_) rfl (by kernel_rfl) (by kernel_rfl) (by kernel_rfl) (fun _ _ _ h => h) (Or.inl ⟨by rfl, ?_⟩) ?_
                        rotate_left
                        · intro w; go_simp
                          try with_reducible rfl
                        simp only [List.getElem_toArray, List.getElem_cons_zero, List.getElem_cons_succ, Act.put, List.setIfInBounds_toArray, List.set_cons_zero, List.set_cons_succ]
                        refine wpAny_take (i := 33) (v := ?_) rfl (by kernel_rfl) (by kernel_rfl) (by kernel_rfl) (fun _ _ _ h => h) (Or.inl ⟨by rfl, ?_⟩) ?_
                        rotate_left
                        · intro w; go_simp
                          try with_reducible rfl
                        simp only [List.getElem_toArray, List.getElem_cons_zero, List.getElem_cons_succ, Act.put, List.setIfInBounds_toArray, List.set_cons_zero, List.set_cons_succ]
                        refine wpAny_take (i := 34) (v := ?_) rfl (by kernel_rfl) (by kernel_rfl) (by kernel_rfl) (fun _ _ _ h => h) (Or.inl ⟨by rfl, ?_⟩) ?_
                        rotate_left
                        · intro w; go_simp
                          try with_reducible rfl
                        simp only [List.getElem_toArray, List.getElem_cons_zero, List.getElem_cons_succ, Act.put, List.setIfInBounds_toArray, List.set_cons_zero, List.set_cons_succ]
                        obtain ⟨c0, c1, c2, f1, f2⟩ := HS6.out.cells
                        refine wpAny_ready (rs := [29, 35]) (by kernel_rfl) (by simp) ?_
                        refine AllReady.cons rfl (fun K hK => ?_) (AllReady.cons rfl (fun K hK => ?_) AllReady.nil)
                        · go_simp
                          refine hK _ _ ?_
                          clear hK K
                          refine wpAny_take (i := 30) (v := ?_) rfl (by kernel_rfl) (by kernel_rfl) (by kernel_rfl) (fun _ _ _ h => h) (Or.inl ⟨by rfl, ?_⟩) ?_
                          rotate_left
                          · intro w; go_simp
                            try with_reducible rfl
                          simp only [List.getElem_toArray, List.getElem_cons_zero, List.getElem_cons_succ, Act.put, List.setIfInBounds_toArray, List.set_cons_zero, List.set_cons_succ]
                          refine wpAny_ready (rs := [35]) (by kernel_rfl) (by simp) ?_
                          refine AllReady.cons rfl (fun K hK => ?_) AllReady.nil
                          go_simp
                          refine hK _ _ ?_
                          clear hK K
                          refine wpAny_take (i := 36) (v := ?_) rfl (by kernel_rfl) (by kernel_rfl) (by kernel_rfl) (fun _ _ _ h => h) (Or.inl ⟨by rfl, ?_⟩) ?_
                          rotate_left
                          · intro w; go_simp
                            try with_reducible rfl
                          simp only [List.getElem_toArray, List.getElem_cons_zero, List.getElem_cons_succ, Act.put, List.setIfInBounds_toArray, List.set_cons_zero, List.set_cons_succ]
                          refine wpAny_take (i := 37) (v := ?_) rfl (by kernel_rfl) (by kernel_rfl) (by kernel_rfl) (fun _ _ _ h => h) (Or.inl ⟨by rfl, ?_⟩) ?_
                          rotate_left
                          · intro w; go_simp
                            try with_reducible rfl
                          simp only [List.getElem_toArray, List.getElem_cons_zero, List.getElem_cons_succ, Act.put, List.setIfInBounds_toArray, List.set_cons_zero, List.set_cons_succ]
                          refine wpAny_take (i := 38) (v := ?_) rfl (by kernel_rfl) (by kernel_rfl) (by kernel_rfl) (fun _ _ _ h => h) (Or.inl ⟨by rfl, ?_⟩) ?_
                          rotate_left
                          · intro w; go_simp
                            try with_reducible rfl
                          simp only [List.getElem_toArray, List.getElem_cons_zero, List.getElem_cons_succ, Act.put, List.setIfInBounds_toArray, List.set_cons_zero, List.set_cons_succ]
                          refine wpAny_done (by kernel_rfl) ?_ _
                          go_wp2_with fail
                          go_meet
                          exact ⟨rfl, HS6.out⟩
                        · go_simp
                          refine hK _ _ ?_
                          clear hK K
                          refine wpAny_ready (rs := [29]) (by kernel_rfl) (by simp) ?_
                          refine AllReady.cons rfl (fun K hK => ?_) AllReady.nil
                          go_simp
                          refine hK _ _ ?_
                          clear hK K
                          refine wpAny_take (i := 30) (v := ?_) rfl (by kernel_rfl) (by kernel_rfl) (by kernel_rfl) (fun _ _ _ h => h) (Or.inl ⟨by rfl, ?_⟩) ?_
                          rotate_left
                          · intro w; go_simp
                            try with_reducible rfl
                          simp only [List.getElem_toArray, List.getElem_cons_zero, List.getElem_cons_succ, Act.put, List.setIfInBounds_toArray, List.set_cons_zero, List.set_cons_succ]
                          refine wpAny_take (i := 36) (v := ?_) rfl (by kernel_rfl) (by kernel_rfl) (by kernel_rfl) (fun _ _ _ h => h) (Or.inl ⟨by rfl, ?_⟩) ?_
                          rotate_left
                          · intro w; go_simp
                            try with_reducible rfl
                          simp only [List.getElem_toArray, List.getElem_cons_zero, List.getElem_cons_succ, Act.put, List.setIfInBounds_toArray, List.set_cons_zero, List.set_cons_succ]
                          refine wpAny_take (i := 37) (v := ?_) rfl (by kernel_rfl) (by kernel_rfl) (by kernel_rfl) (fun _ _ _ h => h) (Or.inl ⟨by rfl, ?_⟩) ?_
                          rotate_left
                          · intro w; go_simp
                            try with_reducible rfl
                          simp only [List.getElem_toArray, List.getElem_cons_zero, List.getElem_cons_succ, Act.put, List.setIfInBounds_toArray, List.set_cons_zero, List.set_cons_succ]
                          refine wpAny_take (i := 38) (v := ?_) rfl (by kernel_rfl) (by kernel_rfl) (by kernel_rfl) (fun _ _ _ h => h) (Or.inl ⟨by rfl, ?_⟩) ?_
                          rotate_left
                          · intro w; go_simp
                            try with_reducible rfl
                          simp only [List.getElem_toArray, List.getElem_cons_zero, List.getElem_cons_succ, Act.put, List.setIfInBounds_toArray, List.set_cons_zero, List.set_cons_succ]
                          refine wpAny_done (by kernel_rfl) ?_ _
                          go_wp2_with fail
                          go_meet
                          exact ⟨rfl, HS6.out⟩
                        all_goals
                          go_wp2_with fail
                          go_meet
                          exact ⟨rfl, HS6.out⟩
                      case rest =>
                        obtain ⟨rfl, hst⟩ := hcut
                        have HST := Lib.hid hst
                        clear hst HS3 H13 H10
                        go_wp2_with fail
                        have hml : ((l.drop a3).take v).length = v := by rw [List.length_take, List.length_drop]; have := HN.out; omega
                        have HBM := Lib.hid ((HBY.out.from_if a3 c (by have := HN.out; omega)).upto v)
                        obtain ⟨mm, hmm⟩ : ∃ mm, (l.drop a3).take v = mm := ⟨_, rfl⟩
                        rw [hmm] at R HBM hml
                        have HML := Lib.hid hml
                        have q6 : (a3 : Int) + v ≤ c := by omega
                        clear hmm hml
                        go_cut [] (fun wx => ∃ out, St w0 wx g (some ⟨p, o, none⟩) n c (a3 : Int) out mm)
                        case first =>
                          obtain ⟨c0, c1, c2, f1, f2⟩ := HST.out.cells
                          obtain ⟨q1, q2, q3, q4, q5⟩ := Q.out
                          by_cases hca : c = a3
                          · have HCL : Hid (∀ W, St w0 W g (some ⟨p, o, none⟩) n c (a3 : Int) (.slice none 0 0) [] → Calls Tryd.prog 47 #[.slice (some ⟨p, o, none⟩) v 0] W (RetB W mm)) := Lib.hid (fun W hW => by
                              refine clone_any _ 0 v _ HML.out W ?_ (by rw [HML.out]; omega)
                              have h1 := (HBM.out.belowle hW.2.2 (Nat.le_refl _)).more (Nat.le_of_lt hW.1.lt)
                              rw [if_pos hca] at h1
                              exact h1)
                            subst hca
                            refine wp_region_any (by kernel_rfl) ?_
                            change wpAny _ _ _ _ _ _ _ (World.drew _)
                            refine wpAny_take (i := 0) (v := ?_) rfl (by kernel_rfl) (by kernel_rfl) (by kernel_rfl) (fun _ _ _ h => h) (Or.inl ⟨by rfl, ?_⟩) ?_
                            rotate_left
                            · intro w; go_simp
                              try with_reducible rfl
                            simp only [List.getElem_toArray, List.getElem_cons_zero, Act.put, List.setIfInBounds_toArray, List.set_cons_zero, List.set_cons_succ]
                            refine wpAny_take (i := 1) (v := ?_) rfl (by kernel_rfl) (by kernel_rfl) (by kernel_rfl) (fun _ _ _ h => h) (Or.inl ⟨by rfl, ?_⟩) ?_
                            rotate_left
                            · intro w; go_simp
                              try with_reducible rfl
                            simp only [List.getElem_toArray, List.getElem_cons_zero, List.getElem_cons_succ, Act.put, List.setIfInBounds_toArray, List.set_cons_zero, List.set_cons_succ]
                            refine wpAny_take (i := 2) (v := ?_) rfl (by kernel_rfl) (by kernel_rfl) (by kernel_rfl) (fun _ _ _ h => h) (Or.inl ⟨by rfl, ?_⟩) ?_
                            rotate_left
                            · intro w; go_simp
                              try with_reducible rfl
                            simp only [List.getElem_toArray, List.getElem_cons_zero, List.getElem_cons_succ, Act.put, List.setIfInBounds_toArray, List.set_cons_zero, List.set_cons_succ]
                            refine wpAny_take (i := 3) (v := ?_) rfl (by kernel_rfl) (by kernel_rfl) (by kernel_rfl) (fun _ _ _ h => h) (Or.inl ⟨by rfl, ?_⟩) ?_
                            rotate_left
                            · intro w; go_simp
                              try with_reducible rfl
                            simp only [List.getElem_toArray, List.getElem_cons_zero, List.getElem_cons_succ, Act.put, List.setIfInBounds_toArray, List.set_cons_zero, List.set_cons_succ]
                            refine wpAny_take (i := 4) (v := ?_) rfl (by kernel_rfl) (by kernel_rfl) (by kernel_rfl) (fun _ _ _ h => h) (Or.inl ⟨by rfl, ?_⟩) ?_
                            rotate_left
                            · intro w; go_simp
                              try with_reducible rfl
                            simp only [List.getElem_toArray, List.getElem_cons_zero, List.getElem_cons_succ, Act.put, List.setIfInBounds_toArray, List.set_cons_zero, List.set_cons_succ]
                            refine wpAny_take (i := 6) (v := ?_) rfl (by kernel_rfl) (by kernel_rfl) (by kernel_rfl) (fun _ _ _ h => h) (Or.inl ⟨by rfl, ?_⟩) ?_
                            rotate_left
                            · intro w; go_simp
                              try with_reducible rfl
                            simp only [List.getElem_toArray, List.getElem_cons_zero, List.getElem_cons_succ, Act.put, List.setIfInBounds_toArray, List.set_cons_zero, List.set_cons_succ]
                            refine wpAny_take (i := 7) (v := ?_) rfl (by kernel_rfl) (by kernel_rfl) (by kernel_rfl) (fun _ _ _ h => h) (Or.inl ⟨by rfl, ?_⟩) ?_
                            rotate_left
                            · intro w; go_simp
                              try with_reducible rfl
                            simp only [List.getElem_toArray, List.getElem_cons_zero, List.getElem_cons_succ, Act.put, List.setIfInBounds_toArray, List.set_cons_zero, List.set_cons_succ]
                            refine wpAny_take (i := 8) (v := ?_) rfl (by kernel_rfl) (by kernel_rfl) (by kernel_rfl) (fun _ _ _ h => h) (Or.inl ⟨by rfl, ?_⟩) ?_
                            rotate_left
                            · intro w; go_simp
                              try with_reducible rfl
                            simp only [List.getElem_toArray, List.getElem_cons_zero, List.getElem_cons_succ, Act.put, List.setIfInBounds_toArray, List.set_cons_zero, List.set_cons_succ]
                            refine wpAny_take (i := 9) (v := ?_) rfl (by kernel_rfl) (by kernel_rfl) (by kernel_rfl) (fun _ _ _ h => h) (Or.inl ⟨by rfl, ?_⟩) ?_
                            rotate_left
                            · intro w; go_simp
                              try with_reducible rfl
                            simp only [List.getElem_toArray, List.getElem_cons_zero, List.getElem_cons_succ, Act.put, List.setIfInBounds_toArray, List.set_cons_zero, List.set_cons_succ]
                            refine wpAny_take (i := 11) (v := ?_) rfl (by kernel_rfl) (by kernel_rfl) (by kernel_rfl) (fun _ _ _ h => h) (Or.inl ⟨by rfl, ?_⟩) ?_
                            rotate_left
                            · intro w; go_simp
                              try with_reducible rfl
                            simp only [List.getElem_toArray, List.getElem_cons_zero, List.getElem_cons_succ, Act.put, List.setIfInBounds_toArray, List.set_cons_zero, List.set_cons_succ]
                            refine wpAny_take (i := 12) (v := ?_) rfl (by kernel_rfl) (by kernel_rfl) (by kernel_rfl) (fun _ _ _ h => h) (Or.inl ⟨by rfl, ?_⟩) ?_
                            rotate_left
                            · intro w; go_simp
                              try with_reducible rfl
                            simp only [List.getElem_toArray, List.getElem_cons_zero, List.getElem_cons_succ, Act.put, List.setIfInBounds_toArray, List.set_cons_zero, List.set_cons_succ]
                            refine wpAny_take (i := 13) (v := ?_) rfl (by kernel_rfl) (by kernel_rfl) (by kernel_rfl) (fun _ _ _ h => h) (Or.inl ⟨by rfl, ?_⟩) ?_
                            rotate_left
                            · intro w; go_simp
                              try with_reducible rfl
                            simp only [List.getElem_toArray, List.getElem_cons_zero, List.getElem_cons_succ, Act.put, List.setIfInBounds_toArray, List.set_cons_zero, List.set_cons_succ]
                            refine wpAny_take (i := 14) (v := ?_) rfl (by kernel_rfl) (by kernel_rfl) (by kernel_rfl) (fun _ _ _ h => h) (Or.inl ⟨by rfl, ?_⟩) ?_
                            rotate_left
                            · intro w; go_simp
                              try with_reducible rfl
                            simp only [List.getElem_toArray, List.getElem_cons_zero, List.getElem_cons_succ, Act.put, List.setIfInBounds_toArray, List.set_cons_zero, List.set_cons_succ]
                            refine wpAny_take (i := 16) (v := ?_) rfl (by kernel_rfl) (by kernel_rfl) (by kernel_rfl) (fun _ _ _ h => h) (Or.inl ⟨by rfl, ?_⟩) ?_
                            rotate_left
                            · intro w; go_simp
                              try with_reducible rfl
                            simp only [List.getElem_toArray, List.getElem_cons_zero, List.getElem_cons_succ, Act.put, List.setIfInBounds_toArray, List.set_cons_zero, List.set_cons_succ]
                            refine wpAny_take (i := 17) (v := ?_) rfl (by kernel_rfl) (by kernel_rfl) (by kernel_rfl) (fun _ _ _ h => h) (Or.inl ⟨by rfl, ?_⟩) ?_
                            rotate_left
                            · intro w; go_simp
                              try with_reducible rfl
                            simp only [List.getElem_toArray, List.getElem_cons_zero, List.getElem_cons_succ, Act.put, List.setIfInBounds_toArray, List.set_cons_zero, List.set_cons_succ]
                            refine wpAny_ready (rs := [5, 10, 15]) (by kernel_rfl) (by simp) ?_
                            refine AllReady.cons rfl (fun K hK => ?_) (AllReady.cons rfl (fun K hK => ?_) (AllReady.cons rfl (fun K hK => ?_) AllReady.nil))
                            · go_simp
                              refine hK _ _ ?_
                              clear hK K
                              refine wpAny_ready (rs := [10, 15]) (by kernel_rfl) (by simp) ?_
                              refine AllReady.cons rfl (fun K hK => ?_) (AllReady.cons rfl (fun K hK => ?_) AllReady.nil)
                              · go_simp
                                refine hK _ _ ?_
                                clear hK K
                                refine wpAny_ready (rs := [15]) (by kernel_rfl) (by simp) ?_
                                refine AllReady.cons rfl (fun K hK => ?_) AllReady.nil
                                go_simp
                                refine hK _ _ ?_
                                clear hK K
                                refine wpAny_take (i := 18) (v := ?_) rfl (by kernel_rfl) (by kernel_rfl) (by kernel_rfl) (fun _ _ _ h => h) (Or.inl ⟨by rfl, ?_⟩) ?_
                                rotate_left
                                · intro w; go_simp
                                  try with_reducible rfl
                                simp only [List.getElem_toArray, List.getElem_cons_zero, List.getElem_cons_succ, Act.put, List.setIfInBounds_toArray, List.set_cons_zero, List.set_cons_succ]
                                refine wpAny_ready (rs := [19]) (by kernel_rfl) (by simp) ?_
                                refine AllReady.cons rfl (fun K hK => ?_) AllReady.nil
                                go_simp
                                refine hK _ _ ?_
                                clear hK K
                                refine wpAny_ready (rs := [20]) (by kernel_rfl) (by simp) ?_
                                refine AllReady.cons rfl (fun K hK => ?_) AllReady.nil
                                go_simp
                                go_wp2_with fail
                                refine (HCL.out _ ?_).mono ?_
                                · exact HST.out.drewN 1
                                rintro e w5 ⟨vv, rfl, hbuf, hb5⟩
                                have hs5 := (HST.out.drewN 1).below hb5
                                obtain ⟨d0, d1, d2, e1, e2⟩ := hs5.cells
                                have hbb : Buf w5 (g + 1) 1 vv mm.length (Lib.byteCells mm) := hbuf.mono (by have := (HST.out.drewN 1).1.lt; exact this)
                                have hput := hs5.put hbb
                                obtain ⟨p5, c5, rfl, -⟩ := hbuf.bys
                                have HP5 := Lib.hid hput
                                clear hbuf hb5 hs5 hput hbb
                                go_wp2_with fail
                                refine wpAny_take (i := 21) (v := ?_) rfl (by kernel_rfl) (by kernel_rfl) (by kernel_rfl) (fun _ _ _ h => h) (Or.inl ⟨by rfl, ?_⟩) ?_
                                rotate_left
                                · intro w; go_simp
                                  try with_reducible rfl
                                simp only [List.getElem_toArray, List.getElem_cons_zero, List.getElem_cons_succ, Act.put, List.setIfInBounds_toArray, List.set_cons_zero, List.set_cons_succ]
                                refine wpAny_take (i := 22) (v := ?_) rfl (by kernel_rfl) (by kernel_rfl) (by kernel_rfl) (fun _ _ _ h => h) (Or.inl ⟨by rfl, ?_⟩) ?_
                                rotate_left
                                · intro w; go_simp
                                  try with_reducible rfl
                                simp only [List.getElem_toArray, List.getElem_cons_zero, List.getElem_cons_succ, Act.put, List.setIfInBounds_toArray, List.set_cons_zero, List.set_cons_succ]
                                refine wpAny_ready (rs := [23]) (by kernel_rfl) (by simp) ?_
                                refine AllReady.cons rfl (fun K hK => ?_) AllReady.nil
                                go_simp
                                refine hK _ _ ?_
                                clear hK K
                                refine wpAny_done (by kernel_rfl) ?_ _
                                go_wp2_with fail
                                go_meet
                                exact ⟨_, HP5.out⟩
                              · go_simp
                                refine hK _ _ ?_
                                clear hK K
                                refine wpAny_take (i := 18) (v := ?_) rfl (by kernel_rfl) (by kernel_rfl) (by kernel_rfl) (fun _ _ _ h => h) (Or.inl ⟨by rfl, ?_⟩) ?_
                                rotate_left
                                · intro w; go_simp
                                  try with_reducible rfl
                                simp only [List.getElem_toArray, List.getElem_cons_zero, List.getElem_cons_succ, Act.put, List.setIfInBounds_toArray, List.set_cons_zero, List.set_cons_succ]
                                refine wpAny_ready (rs := [10]) (by kernel_rfl) (by simp) ?_
                                refine AllReady.cons rfl (fun K hK => ?_) AllReady.nil
                                go_simp
                                refine hK _ _ ?_
                                clear hK K
                                refine wpAny_ready (rs := [19]) (by kernel_rfl) (by simp) ?_
                                refine AllReady.cons rfl (fun K hK => ?_) AllReady.nil
                                go_simp
                                refine hK _ _ ?_
                                clear hK K
                                refine wpAny_ready (rs := [20]) (by kernel_rfl) (by simp) ?_
                                refine AllReady.cons rfl (fun K hK => ?_) AllReady.nil
                                go_simp
                                go_wp2_with fail
                                refine (HCL.out _ ?_).mono ?_
                                · exact HST.out.drewN 1
                                rintro e w5 ⟨vv, rfl, hbuf, hb5⟩
                                have hs5 := (HST.out.drewN 1).below hb5
                                obtain ⟨d0, d1, d2, e1, e2⟩ := hs5.cells
                                have hbb : Buf w5 (g + 1) 1 vv mm.length (Lib.byteCells mm) := hbuf.mono (by have := (HST.out.drewN 1).1.lt; exact this)
                                have hput := hs5.put hbb
                                obtain ⟨p5, c5, rfl, -⟩ := hbuf.bys
                                have HP5 := Lib.hid hput
                                clear hbuf hb5 hs5 hput hbb
                                go_wp2_with fail
                                refine wpAny_take (i := 21) (v := ?_) rfl (by kernel_rfl) (by kernel_rfl) (by kernel_rfl) (fun _ _ _ h => h) (Or.inl ⟨by rfl, ?_⟩) ?_
                                rotate_left
                                · intro w; go_simp
                                  try with_reducible rfl
                                simp only [List.getElem_toArray, List.getElem_cons_zero, List.getElem_cons_succ, Act.put, List.setIfInBounds_toArray, List.set_cons_zero, List.set_cons_succ]
                                refine wpAny_take (i := 22) (v := ?_) rfl (by kernel_rfl) (by kernel_rfl) (by kernel_rfl) (fun _ _ _ h => h) (Or.inl ⟨by rfl, ?_⟩) ?_
                                rotate_left
                                · intro w; go_simp
                                  try with_reducible rfl
                                simp only [List.getElem_toArray, List.getElem_cons_zero, List.getElem_cons_succ, Act.put, List.setIfInBounds_toArray, List.set_cons_zero, List.set_cons_succ]
                                refine wpAny_ready (rs := [23]) (by kernel_rfl) (by simp) ?_
                                refine AllReady.cons rfl (fun K hK => ?_) AllReady.nil
                                go_simp
                                refine hK _ _ ?_
                                clear hK K
                                refine wpAny_done (by kernel_rfl) ?_ _
                                go_wp2_with fail
                                go_meet
                                exact ⟨_, HP5.out⟩
                            · go_simp
                              refine hK _ _ ?_
                              clear hK K
                              refine wpAny_ready (rs := [5, 15]) (by kernel_rfl) (by simp) ?_
                              refine AllReady.cons rfl (fun K hK => ?_) (AllReady.cons rfl (fun K hK => ?_) AllReady.nil)
                              · go_simp
                                refine hK _ _ ?_
                                clear hK K
                                refine wpAny_ready (rs := [15]) (by kernel_rfl) (by simp) ?_
                                refine AllReady.cons rfl (fun K hK => ?_) AllReady.nil
                                go_simp
                                refine hK _ _ ?_
                                clear hK K
                                refine wpAny_take (i := 18) (v := ?_) rfl (by kernel_rfl) (by kernel_rfl) (by kernel_rfl) (fun _ _ _ h => h) (Or.inl ⟨by rfl, ?_⟩) ?_
                                rotate_left
                                · intro w; go_simp
                                  try with_reducible rfl
                                simp only [List.getElem_toArray, List.getElem_cons_zero, List.getElem_cons_succ, Act.put, List.setIfInBounds_toArray, List.set_cons_zero, List.set_cons_succ]
                                refine wpAny_ready (rs := [19]) (by kernel_rfl) (by simp) ?_
                                refine AllReady.cons rfl (fun K hK => ?_) AllReady.nil
                                go_simp
                                refine hK _ _ ?_
                                clear hK K
                                refine wpAny_ready (rs := [20]) (by kernel_rfl) (by simp) ?_
                                refine AllReady.cons rfl (fun K hK => ?_) AllReady.nil
                                go_simp
                                go_wp2_with fail
                                refine (HCL.out _ ?_).mono ?_
                                · exact HST.out.drewN 1
                                rintro e w5 ⟨vv, rfl, hbuf, hb5⟩
                                have hs5 := (HST.out.drewN 1).below hb5
                                obtain ⟨d0, d1, d2, e1, e2⟩ := hs5.cells
                                have hbb : Buf w5 (g + 1) 1 vv mm.length (Lib.byteCells mm) := hbuf.mono (by have := (HST.out.drewN 1).1.lt; exact this)
                                have hput := hs5.put hbb
                                obtain ⟨p5, c5, rfl, -⟩ := hbuf.bys
                                have HP5 := Lib.hid hput
                                clear hbuf hb5 hs5 hput hbb
                                go_wp2_with fail
                                refine wpAny_take (i := 21) (v := ?_) rfl (by kernel_rfl) (by kernel_rfl) (by kernel_rfl) (fun _ _ _ h => h) (Or.inl ⟨by rfl, ?_⟩) ?_
                                rotate_left
                                · intro w; go_simp
                                  try with_reducible rfl
                                simp only [List.getElem_toArray, List.getElem_cons_zero, List.getElem_cons_succ, Act.put, List.setIfInBounds_toArray, List.set_cons_zero, List.set_cons_succ]
                                refine wpAny_take (i := 22) (v := ?_) rfl (by kernel_rfl) (by kernel_rfl) (by kernel_rfl) (fun _ _ _ h => h) (Or.inl ⟨by rfl, ?_⟩) ?_
                                rotate_left
                                · intro w; go_simp
                                  try with_reducible rfl
                                simp only [List.getElem_toArray, List.getElem_cons_zero, List.getElem_cons_succ, Act.put, List.setIfInBounds_toArray, List.set_cons_zero, List.set_cons_succ]
                                refine wpAny_ready (rs := [23]) (by kernel_rfl) (by simp) ?_
                                refine AllReady.cons rfl (fun K hK => ?_) AllReady.nil
                                go_simp
                                refine hK _ _ ?_
                                clear hK K
                                refine wpAny_done (by kernel_rfl) ?_ _
                                go_wp2_with fail
                                go_meet
                                exact ⟨_, HP5.out⟩
                              · go_simp
                                refine hK _ _ ?_
                                clear hK K
                                refine wpAny_take (i := 18) (v := ?_) rfl (by kernel_rfl) (by kernel_rfl) (by kernel_rfl) (fun _ _ _ h => h) (Or.inl ⟨by rfl, ?_⟩) ?_
                                rotate_left
                                · intro w; go_simp
                                  try with_reducible rfl
                                simp only [List.getElem_toArray, List.getElem_cons_zero, List.getElem_cons_succ, Act.put, List.setIfInBounds_toArray, List.set_cons_zero, List.set_cons_succ]
                                refine wpAny_ready (rs := [5]) (by kernel_rfl) (by simp) ?_
                                refine AllReady.cons rfl (fun K hK => ?_) AllReady.nil
                                go_simp
                                refine hK _ _ ?_
                                clear hK K
                                refine wpAny_ready (rs := [19]) (by kernel_rfl) (by simp) ?_
                                refine AllReady.cons rfl (fun K hK => ?_) AllReady.nil
                                go_simp
                                refine hK _ _ ?_
                                clear hK K
                                refine wpAny_ready (rs := [20]) (by kernel_rfl) (by simp) ?_
                                refine AllReady.cons rfl (fun K hK => ?_) AllReady.nil
                                go_simp
                                go_wp2_with fail
                                refine (HCL.out _ ?_).mono ?_
                                · exact HST.out.drewN 1
                                rintro e w5 ⟨vv, rfl, hbuf, hb5⟩
                                have hs5 := (HST.out.drewN 1).below hb5
                                obtain ⟨d0, d1, d2, e1, e2⟩ := hs5.cells
                                have hbb : Buf w5 (g + 1) 1 vv mm.length (Lib.byteCells mm) := hbuf.mono (by have := (HST.out.drewN 1).1.lt; exact this)
                                have hput := hs5.put hbb
                                obtain ⟨p5, c5, rfl, -⟩ := hbuf.bys
                                have HP5 := Lib.hid hput
                                clear hbuf hb5 hs5 hput hbb
                                go_wp2_with fail
                                refine wpAny_take (i := 21) (v := ?_) rfl (by kernel_rfl) (by kernel_rfl) (by kernel_rfl) (fun _ _ _ h => h) (Or.inl ⟨by rfl, ?_⟩) ?_
                                rotate_left
                                · intro w; go_simp
                                  try with_reducible rfl
                                simp only [List.getElem_toArray, List.getElem_cons_zero, List.getElem_cons_succ, Act.put, List.setIfInBounds_toArray, List.set_cons_zero, List.set_cons_succ]
                                refine wpAny_take (i := 22) (v := ?_) rfl (by kernel_rfl) (by kernel_rfl) (by kernel_rfl) (fun _ _ _ h => h) (Or.inl ⟨by rfl, ?_⟩) ?_
                                rotate_left
                                · intro w; go_simp
                                  try with_reducible rfl
                                simp only [List.getElem_toArray, List.getElem_cons_zero, List.getElem_cons_succ, Act.put, List.setIfInBounds_toArray, List.set_cons_zero, List.set_cons_succ]
                                refine wpAny_ready (rs := [23]) (by kernel_rfl) (by simp) ?_
                                refine AllReady.cons rfl (fun K hK => ?_) AllReady.nil
                                go_simp
                                refine hK _ _ ?_
                                clear hK K
                                refine wpAny_done (by kernel_rfl) ?_ _
                                go_wp2_with fail
                                go_meet
                                exact ⟨_, HP5.out⟩
                            · go_simp
                              refine hK _ _ ?_
                              clear hK K
                              refine wpAny_take (i := 18) (v := ?_) rfl (by kernel_rfl) (by kernel_rfl) (by kernel_rfl) (fun _ _ _ h => h) (Or.inl ⟨by rfl, ?_⟩) ?_
                              rotate_left
                              · intro w; go_simp
                                try with_reducible rfl
                              simp only [List.getElem_toArray, List.getElem_cons_zero, List.getElem_cons_succ, Act.put, List.setIfInBounds_toArray, List.set_cons_zero, List.set_cons_succ]
                              refine wpAny_ready (rs := [5, 10]) (by kernel_rfl) (by simp) ?_
                              refine AllReady.cons rfl (fun K hK => ?_) (AllReady.cons rfl (fun K hK => ?_) AllReady.nil)
                              · go_simp
                                refine hK _ _ ?_
                                clear hK K
                                refine wpAny_ready (rs := [10]) (by kernel_rfl) (by simp) ?_
                                refine AllReady.cons rfl (fun K hK => ?_) AllReady.nil
                                go_simp
                                refine hK _ _ ?_
                                clear hK K
                                refine wpAny_ready (rs := [19]) (by kernel_rfl) (by simp) ?_
                                refine AllReady.cons rfl (fun K hK => ?_) AllReady.nil
                                go_simp
                                refine hK _ _ ?_
                                clear hK K
                                refine wpAny_ready (rs := [20]) (by kernel_rfl) (by simp) ?_
                                refine AllReady.cons rfl (fun K hK => ?_) AllReady.nil
                                go_simp
                                go_wp2_with fail
                                refine (HCL.out _ ?_).mono ?_
                                · exact HST.out.drewN 1
                                rintro e w5 ⟨vv, rfl, hbuf, hb5⟩
                                have hs5 := (HST.out.drewN 1).below hb5
                                obtain ⟨d0, d1, d2, e1, e2⟩ := hs5.cells
                                have hbb : Buf w5 (g + 1) 1 vv mm.length (Lib.byteCells mm) := hbuf.mono (by have := (HST.out.drewN 1).1.lt; exact this)
                                have hput := hs5.put hbb
                                obtain ⟨p5, c5, rfl, -⟩ := hbuf.bys
                                have HP5 := Lib.hid hput
                                clear hbuf hb5 hs5 hput hbb
                                go_wp2_with fail
                                refine wpAny_take (i := 21) (v := ?_) rfl (by kernel_rfl) (by kernel_rfl) (by kernel_rfl) (fun _ _ _ h => h) (Or.inl ⟨by rfl, ?_⟩) ?_
                                rotate_left
                                · intro w; go_simp
                                  try with_reducible rfl
                                simp only [List.getElem_toArray, List.getElem_cons_zero, List.getElem_cons_succ, Act.put, List.setIfInBounds_toArray, List.set_cons_zero, List.set_cons_succ]
                                refine wpAny_take (i := 22) (v := ?_) rfl (by kernel_rfl) (by kernel_rfl) (by kernel_rfl) (fun _ _ _ h => h) (Or.inl ⟨by rfl, ?_⟩) ?_
                                rotate_left
                                · intro w; go_simp
                                  try with_reducible rfl
                                simp only [List.getElem_toArray, List.getElem_cons_zero, List.getElem_cons_succ, Act.put, List.setIfInBounds_toArray, List.set_cons_zero, List.set_cons_succ]
                                refine wpAny_ready (rs := [23]) (by kernel_rfl) (by simp) ?_
                                refine AllReady.cons rfl (fun K hK => ?_) AllReady.nil
                                go_simp
                                refine hK _ _ ?_
                                clear hK K
                                refine wpAny_done (by kernel_rfl) ?_ _
                                go_wp2_with fail
                                go_meet
                                exact ⟨_, HP5.out⟩
                              · go_simp
                                refine hK _ _ ?_
                                clear hK K
                                refine wpAny_ready (rs := [5]) (by kernel_rfl) (by simp) ?_
                                refine AllReady.cons rfl (fun K hK => ?_) AllReady.nil
                                go_simp
                                refine hK _ _ ?_
                                clear hK K
                                refine wpAny_ready (rs := [19]) (by kernel_rfl) (by simp) ?_
                                refine AllReady.cons rfl (fun K hK => ?_) AllReady.nil
                                go_simp
                                refine hK _ _ ?_
                                clear hK K
                                refine wpAny_ready (rs := [20]) (by kernel_rfl) (by simp) ?_
                                refine AllReady.cons rfl (fun K hK => ?_) AllReady.nil
                                go_simp
                                go_wp2_with fail
                                refine (HCL.out _ ?_).mono ?_
                                · exact HST.out.drewN 1
                                rintro e w5 ⟨vv, rfl, hbuf, hb5⟩
                                have hs5 := (HST.out.drewN 1).below hb5
                                obtain ⟨d0, d1, d2, e1, e2⟩ := hs5.cells
                                have hbb : Buf w5 (g + 1) 1 vv mm.length (Lib.byteCells mm) := hbuf.mono (by have := (HST.out.drewN 1).1.lt; exact this)
                                have hput := hs5.put hbb
                                obtain ⟨p5, c5, rfl, -⟩ := hbuf.bys
                                have HP5 := Lib.hid hput
                                clear hbuf hb5 hs5 hput hbb
                                go_wp2_with fail
                                refine wpAny_take (i := 21) (v := ?_) rfl (by kernel_rfl) (by kernel_rfl) (by kernel_rfl) (fun _ _ _ h => h) (Or.inl ⟨by rfl, ?_⟩) ?_
                                rotate_left
                                · intro w; go_simp
                                  try with_reducible rfl
                                simp only [List.getElem_toArray, List.getElem_cons_zero, List.getElem_cons_succ, Act.put, List.setIfInBounds_toArray, List.set_cons_zero, List.set_cons_succ]
                                refine wpAny_take (i := 22) (v := ?_) rfl (by kernel_rfl) (by kernel_rfl) (by kernel_rfl) (fun _ _ _ h => h) (Or.inl ⟨by rfl, ?_⟩) ?_
                                rotate_left
                                · intro w; go_simp
                                  try with_reducible rfl
                                simp only [List.getElem_toArray, List.getElem_cons_zero, List.getElem_cons_succ, Act.put, List.setIfInBounds_toArray, List.set_cons_zero, List.set_cons_succ]
                                refine wpAny_ready (rs := [23]) (by kernel_rfl) (by simp) ?_
                                refine AllReady.cons rfl (fun K hK => ?_) AllReady.nil
                                go_simp
                                refine hK _ _ ?_
                                clear hK K
                                refine wpAny_done (by kernel_rfl) ?_ _
                                go_wp2_with fail
                                go_meet
                                exact ⟨_, HP5.out⟩
                          · have HCL : Hid (∀ W, St w0 W g (some ⟨p, o, none⟩) n c (a3 : Int) (.slice none 0 0) [] → Calls Tryd.prog 47 #[.slice (some ⟨p, o + a3, none⟩) v (c - a3)] W (RetB W mm)) := Lib.hid (fun W hW => by
                              refine clone_any _ (c - a3) v _ HML.out W ?_ (by rw [HML.out]; omega)
                              have h1 := (HBM.out.belowle hW.2.2 (Nat.le_refl _)).more (Nat.le_of_lt hW.1.lt)
                              rw [if_neg hca, Option.map_some, Go.WideShapes.add_plain] at h1
                              exact h1)
                            refine wp_region_any (by kernel_rfl) ?_
                            change wpAny _ _ _ _ _ _ _ (World.drew _)
                            refine wpAny_take (i := 0) (v := ?_) rfl (by kernel_rfl) (by kernel_rfl) (by kernel_rfl) (fun _ _ _ h => h) (Or.inl ⟨by rfl, ?_⟩) ?_
                            rotate_left
                            · intro w; go_simp
                              try with_reducible rfl
                            simp only [List.getElem_toArray, List.getElem_cons_zero, Act.put, List.setIfInBounds_toArray, List.set_cons_zero, List.set_cons_succ]
                            refine wpAny_take (i := 1) (v := ?_) rfl (by kernel_rfl) (by kernel_rfl) (by kernel_rfl) (fun _ _ _ h => h) (Or.inl ⟨by rfl, ?_⟩) ?_
                            rotate_left
                            · intro w; go_simp
                              try with_reducible rfl
                            simp only [List.getElem_toArray, List.getElem_cons_zero, List.getElem_cons_succ, Act.put, List.setIfInBounds_toArray, List.set_cons_zero, List.set_cons_succ]
                            refine wpAny_take (i := 2) (v := ?_) rfl (by kernel_rfl) (by kernel_rfl) (by kernel_rfl) (fun _ _ _ h => h) (Or.inl ⟨by rfl, ?_⟩) ?_
                            rotate_left
                            · intro w; go_simp
                              try with_reducible rfl
                            simp only [List.getElem_toArray, List.getElem_cons_zero, List.getElem_cons_succ, Act.put, List.setIfInBounds_toArray, List.set_cons_zero, List.set_cons_succ]
                            refine wpAny_take (i := 3) (v := ?_) rfl (by kernel_rfl) (by kernel_rfl) (by kernel_rfl) (fun _ _ _ h => h) (Or.inl ⟨by rfl, ?_⟩) ?_
                            rotate_left
                            · intro w; go_simp
                              try with_reducible rfl
                            simp only [List.getElem_toArray, List.getElem_cons_zero, List.getElem_cons_succ, Act.put, List.setIfInBounds_toArray, List.set_cons_zero, List.set_cons_succ]
                            refine wpAny_take (i := 4) (v := ?_) rfl (by kernel_rfl) (by kernel_rfl) (by kernel_rfl) (fun _ _ _ h => h) (Or.inl ⟨by rfl, ?_⟩) ?_
                            rotate_left
                            · intro w; go_simp
                              try with_reducible rfl
                            simp only [List.getElem_toArray, List.getElem_cons_zero, List.getElem_cons_succ, Act.put, List.setIfInBounds_toArray, List.set_cons_zero, List.set_cons_succ]
                            refine wpAny_take (i := 6) (v := ?_) rfl (by kernel_rfl) (by kernel_rfl) (by kernel_rfl) (fun _ _ _ h => h) (Or.inl ⟨by rfl, ?_⟩) ?_
                            rotate_left
                            · intro w; go_simp
                              try with_reducible rfl
                            simp only [List.getElem_toArray, List.getElem_cons_zero, List.getElem_cons_succ, Act.put, List.setIfInBounds_toArray, List.set_cons_zero, List.set_cons_succ]
                            refine wpAny_take (i := 7) (v := ?_) rfl (by kernel_rfl) (by kernel_rfl) (by kernel_rfl) (fun _ _ _ h => h) (Or.inl ⟨by rfl, ?_⟩) ?_
                            rotate_left
                            · intro w; go_simp
                              try with_reducible rfl
                            simp only [List.getElem_toArray, List.getElem_cons_zero, List.getElem_cons_succ, Act.put, List.setIfInBounds_toArray, List.set_cons_zero, List.set_cons_succ]
                            refine wpAny_take (i := 8) (v := ?_) rfl (by kernel_rfl) (by kernel_rfl) (by kernel_rfl) (fun _ _ _ h => h) (Or.inl ⟨by rfl, ?_⟩) ?_
                            rotate_left
                            · intro w; go_simp
                              try with_reducible rfl
                            simp only [List.getElem_toArray, List.getElem_cons_zero, List.getElem_cons_succ, Act.put, List.setIfInBounds_toArray, List.set_cons_zero, List.set_cons_succ]
                            refine wpAny_take (i := 9) (v := ?_) rfl (by kernel_rfl) (by kernel_rfl) (by kernel_rfl) (fun _ _ _ h => h) (Or.inl ⟨by rfl, ?_⟩) ?_
                            rotate_left
                            · intro w; go_simp
                              try with_reducible rfl
                            simp only [List.getElem_toArray, List.getElem_cons_zero, List.getElem_cons_succ, Act.put, List.setIfInBounds_toArray, List.set_cons_zero, List.set_cons_succ]
                            refine wpAny_take (i := 11) (v := ?_) rfl (by kernel_rfl) (by kernel_rfl) (by kernel_rfl) (fun _ _ _ h => h) (Or.inl ⟨by rfl, ?_⟩) ?_
                            rotate_left
                            · intro w; go_simp
                              try with_reducible rfl
                            simp only [List.getElem_toArray, List.getElem_cons_zero, List.getElem_cons_succ, Act.put, List.setIfInBounds_toArray, List.set_cons_zero, List.set_cons_succ]
                            refine wpAny_take (i := 12) (v := ?_) rfl (by kernel_rfl) (by kernel_rfl) (by kernel_rfl) (fun _ _ _ h => h) (Or.inl ⟨by rfl, ?_⟩) ?_
                            rotate_left
                            · intro w; go_simp
                              try with_reducible rfl
                            simp only [List.getElem_toArray, List.getElem_cons_zero, List.getElem_cons_succ, Act.put, List.setIfInBounds_toArray, List.set_cons_zero, List.set_cons_succ]
                            refine wpAny_take (i := 13) (v := ?_) rfl (by kernel_rfl) (by kernel_rfl) (by kernel_rfl) (fun _ _ _ h => h) (Or.inl ⟨by rfl, ?_⟩) ?_
                            rotate_left
                            · intro w; go_simp
                              try with_reducible rfl
                            simp only [List.getElem_toArray, List.getElem_cons_zero, List.getElem_cons_succ, Act.put, List.setIfInBounds_toArray, List.set_cons_zero, List.set_cons_succ]
                            refine wpAny_take (i := 14) (v := ?_) rfl (by kernel_rfl) (by kernel_rfl) (by kernel_rfl) (fun _ _ _ h => h) (Or.inl ⟨by rfl, ?_⟩) ?_
                            rotate_left
                            · intro w; go_simp
                              try with_reducible rfl
                            simp only [List.getElem_toArray, List.getElem_cons_zero, List.getElem_cons_succ, Act.put, List.setIfInBounds_toArray, List.set_cons_zero, List.set_cons_succ]
                            refine wpAny_take (i := 16) (v := ?_) rfl (by kernel_rfl) (by kernel_rfl) (by kernel_rfl) (fun _ _ _ h => h) (Or.inl ⟨by rfl, ?_⟩) ?_
                            rotate_left
                            · intro w; go_simp
                              try with_reducible rfl
                            simp only [List.getElem_toArray, List.getElem_cons_zero, List.getElem_cons_succ, Act.put, List.setIfInBounds_toArray, List.set_cons_zero, List.set_cons_succ]
                            refine wpAny_take (i := 17) (v := ?_) rfl (by kernel_rfl) (by kernel_rfl) (by kernel_rfl) (fun _ _ _ h => h) (Or.inl ⟨by rfl, ?_⟩) ?_
                            rotate_left
                            · intro w; go_simp
                              try with_reducible rfl
                            simp only [List.getElem_toArray, List.getElem_cons_zero, List.getElem_cons_succ, Act.put, List.setIfInBounds_toArray, List.set_cons_zero, List.set_cons_succ]
                            refine wpAny_ready (rs := [5, 10, 15]) (by kernel_rfl) (by simp) ?_
                            refine AllReady.cons rfl (fun K hK => ?_) (AllReady.cons rfl (fun K hK => ?_) (AllReady.cons rfl (fun K hK => ?_) AllReady.nil))
                            · go_simp
                              refine hK _ _ ?_
                              clear hK K
                              refine wpAny_ready (rs := [10, 15]) (by kernel_rfl) (by simp) ?_
                              refine AllReady.cons rfl (fun K hK => ?_) (AllReady.cons rfl (fun K hK => ?_) AllReady.nil)
                              · go_simp
                                refine hK _ _ ?_
                                clear hK K
                                refine wpAny_ready (rs := [15]) (by kernel_rfl) (by simp) ?_
                                refine AllReady.cons rfl (fun K hK => ?_) AllReady.nil
                                go_simp
                                refine hK _ _ ?_
                                clear hK K
                                refine wpAny_take (i := 18) (v := ?_) rfl (by kernel_rfl) (by kernel_rfl) (by kernel_rfl) (fun _ _ _ h => h) (Or.inl ⟨by rfl, ?_⟩) ?_
                                rotate_left
                                · intro w; go_simp
                                  try with_reducible rfl
                                simp only [List.getElem_toArray, List.getElem_cons_zero, List.getElem_cons_succ, Act.put, List.setIfInBounds_toArray, List.set_cons_zero, List.set_cons_succ]
                                refine wpAny_ready (rs := [19]) (by kernel_rfl) (by simp) ?_
                                refine AllReady.cons rfl (fun K hK => ?_) AllReady.nil
                                go_simp
                                refine hK _ _ ?_
                                clear hK K
                                refine wpAny_ready (rs := [20]) (by kernel_rfl) (by simp) ?_
                                refine AllReady.cons rfl (fun K hK => ?_) AllReady.nil
                                go_simp
                                go_wp2_with fail
                                refine (HCL.out _ ?_).mono ?_
                                · exact HST.out.drewN 1
                                rintro e w5 ⟨vv, rfl, hbuf, hb5⟩
                                have hs5 := (HST.out.drewN 1).below hb5
                                obtain ⟨d0, d1, d2, e1, e2⟩ := hs5.cells
                                have hbb : Buf w5 (g + 1) 1 vv mm.length (Lib.byteCells mm) := hbuf.mono (by have := (HST.out.drewN 1).1.lt; exact this)
                                have hput := hs5.put hbb
                                obtain ⟨p5, c5, rfl, -⟩ := hbuf.bys
                                have HP5 := Lib.hid hput
                                clear hbuf hb5 hs5 hput hbb
                                go_wp2_with fail
                                refine wpAny_take (i := 21) (v := ?_) rfl (by kernel_rfl) (by kernel_rfl) (by kernel_rfl) (fun _ _ _ h => h) (Or.inl ⟨by rfl, ?_⟩) ?_
                                rotate_left
                                · intro w; go_simp
                                  try with_reducible rfl
                                simp only [List.getElem_toArray, List.getElem_cons_zero, List.getElem_cons_succ, Act.put, List.setIfInBounds_toArray, List.set_cons_zero, List.set_cons_succ]
                                refine wpAny_take (i := 22) (v := ?_) rfl (by kernel_rfl) (by kernel_rfl) (by kernel_rfl) (fun _ _ _ h => h) (Or.inl ⟨by rfl, ?_⟩) ?_
                                rotate_left
                                · intro w; go_simp
                                  try with_reducible rfl
                                simp only [List.getElem_toArray, List.getElem_cons_zero, List.getElem_cons_succ, Act.put, List.setIfInBounds_toArray, List.set_cons_zero, List.set_cons_succ]
                                refine wpAny_ready (rs := [23]) (by kernel_rfl) (by simp) ?_
                                refine AllReady.cons rfl (fun K hK => ?_) AllReady.nil
                                go_simp
                                refine hK _ _ ?_
                                clear hK K
                                refine wpAny_done (by kernel_rfl) ?_ _
                                go_wp2_with fail
                                go_meet
                                exact ⟨_, HP5.out⟩
                              · go_simp
                                refine hK _ _ ?_
                                clear hK K
                                refine wpAny_take (i := 18) (v := ?_) rfl (by kernel_rfl) (by kernel_rfl) (by kernel_rfl) (fun _ _ _ h => h) (Or.inl ⟨by rfl, ?_⟩) ?_
                                rotate_left
                                · intro w; go_simp
                                  try with_reducible rfl
                                simp only [List.getElem_toArray, List.getElem_cons_zero, List.getElem_cons_succ, Act.put, List.setIfInBounds_toArray, List.set_cons_zero, List.set_cons_succ]
                                refine wpAny_ready (rs := [10]) (by kernel_rfl) (by simp) ?_
                                refine AllReady.cons rfl (fun K hK => ?_) AllReady.nil
                                go_simp
                                refine hK _ _ ?_
                                clear hK K
                                refine wpAny_ready (rs := [19]) (by kernel_rfl) (by simp) ?_
                                refine AllReady.cons rfl (fun K hK => ?_) AllReady.nil
                                go_simp
                                refine hK _ _ ?_
                                clear hK K
                                refine wpAny_ready (rs := [20]) (by kernel_rfl) (by simp) ?_
                                refine AllReady.cons rfl (fun K hK => ?_) AllReady.nil
                                go_simp
                                go_wp2_with fail
                                refine (HCL.out _ ?_).mono ?_
                                · exact HST.out.drewN 1
                                rintro e w5 ⟨vv, rfl, hbuf, hb5⟩
                                have hs5 := (HST.out.drewN 1).below hb5
                                obtain ⟨d0, d1, d2, e1, e2⟩ := hs5.cells
                                have hbb : Buf w5 (g + 1) 1 vv mm.length (Lib.byteCells mm) := hbuf.mono (by have := (HST.out.drewN 1).1.lt; exact this)
                                have hput := hs5.put hbb
                                obtain ⟨p5, c5, rfl, -⟩ := hbuf.bys
                                have HP5 := Lib.hid hput
                                clear hbuf hb5 hs5 hput hbb
                                go_wp2_with fail
                                refine wpAny_take (i := 21) (v := ?_) rfl (by kernel_rfl) (by kernel_rfl) (by kernel_rfl) (fun _ _ _ h => h) (Or.inl ⟨by rfl, ?_⟩) ?_
                                rotate_left
                                · intro w; go_simp
                                  try with_reducible rfl
                                simp only [List.getElem_toArray, List.getElem_cons_zero, List.getElem_cons_succ, Act.put, List.setIfInBounds_toArray, List.set_cons_zero, List.set_cons_succ]
                                refine wpAny_take (i := 22) (v := ?_) rfl (by kernel_rfl) (by kernel_rfl) (by kernel_rfl) (fun _ _ _ h => h) (Or.inl ⟨by rfl, ?_⟩) ?_
                                rotate_left
                                · intro w; go_simp
                                  try with_reducible rfl
                                simp only [List.getElem_toArray, List.getElem_cons_zero, List.getElem_cons_succ, Act.put, List.setIfInBounds_toArray, List.set_cons_zero, List.set_cons_succ]
                                refine wpAny_ready (rs := [23]) (by kernel_rfl) (by simp) ?_
                                refine AllReady.cons rfl (fun K hK => ?_) AllReady.nil
                                go_simp
                                refine hK _ _ ?_
                                clear hK K
                                refine wpAny_done (by kernel_rfl) ?_ _
                                go_wp2_with fail
                                go_meet
                                exact ⟨_, HP5.out⟩
                            · go_simp
                              refine hK _ _ ?_
                              clear hK K
                              refine wpAny_ready (rs := [5, 15]) (by kernel_rfl) (by simp) ?_
                              refine AllReady.cons rfl (fun K hK => ?_) (AllReady.cons rfl (fun K hK => ?_) AllReady.nil)
                              · go_simp
                                refine hK _ _ ?_
                                clear hK K
                                refine wpAny_ready (rs := [15]) (by kernel_rfl) (by simp) ?_
                                refine AllReady.cons rfl (fun K hK => ?_) AllReady.nil
                                go_simp
                                refine hK _ _ ?_
                                clear hK K
                                refine wpAny_take (i := 18) (v := ?_) rfl (by kernel_rfl) (by kernel_rfl) (by kernel_rfl) (fun _ _ _ h => h) (Or.inl ⟨by rfl, ?_⟩) ?_
                                rotate_left
                                · intro w; go_simp
                                  try with_reducible rfl
                                simp only [List.getElem_toArray, List.getElem_cons_zero, List.getElem_cons_succ, Act.put, List.setIfInBounds_toArray, List.set_cons_zero, List.set_cons_succ]
                                refine wpAny_ready (rs := [19]) (by kernel_rfl) (by simp) ?_
                                refine AllReady.cons rfl (fun K hK => ?_) AllReady.nil
                                go_simp
                                refine hK _ _ ?_
                                clear hK K
                                refine wpAny_ready (rs := [20]) (by kernel_rfl) (by simp) ?_
                                refine AllReady.cons rfl (fun K hK => ?_) AllReady.nil
                                go_simp
                                go_wp2_with fail
                                refine (HCL.out _ ?_).mono ?_
                                · exact HST.out.drewN 1
                                rintro e w5 ⟨vv, rfl, hbuf, hb5⟩
                                have hs5 := (HST.out.drewN 1).below hb5
                                obtain ⟨d0, d1, d2, e1, e2⟩ := hs5.cells
                                have hbb : Buf w5 (g + 1) 1 vv mm.length (Lib.byteCells mm) := hbuf.mono (by have := (HST.out.drewN 1).1.lt; exact this)
                                have hput := hs5.put hbb
                                obtain ⟨p5, c5, rfl, -⟩ := hbuf.bys
                                have HP5 := Lib.hid hput
                                clear hbuf hb5 hs5 hput hbb
                                go_wp2_with fail
                                refine wpAny_take (i := 21) (v := ?_) rfl (by kernel_rfl) (by kernel_rfl) (by kernel_rfl) (fun _ _ _ h => h) (Or.inl ⟨by rfl, ?_⟩) ?_
                                rotate_left
                                · intro w; go_simp
                                  try with_reducible rfl
                                simp only [List.getElem_toArray, List.getElem_cons_zero, List.getElem_cons_succ, Act.put, List.setIfInBounds_toArray, List.set_cons_zero, List.set_cons_succ]
                                refine wpAny_take (i := 22) (v := ?_) rfl (by kernel_rfl) (by kernel_rfl) (by kernel_rfl) (fun _ _ _ h => h) (Or.inl ⟨by rfl, ?_⟩) ?_
                                rotate_left
                                · intro w; go_simp
                                  try with_reducible rfl
                                simp only [List.getElem_toArray, List.getElem_cons_zero, List.getElem_cons_succ, Act.put, List.setIfInBounds_toArray, List.set_cons_zero, List.set_cons_succ]
                                refine wpAny_ready (rs := [23]) (by kernel_rfl) (by simp) ?_
                                refine AllReady.cons rfl (fun K hK => ?_) AllReady.nil
                                go_simp
                                refine hK _ _ ?_
                                clear hK K
                                refine wpAny_done (by kernel_rfl) ?_ _
                                go_wp2_with fail
                                go_meet
                                exact ⟨_, HP5.out⟩
                              · go_simp
                                refine hK _ _ ?_
                                clear hK K
                                refine wpAny_take (i := 18) (v := ?_) rfl (by kernel_rfl) (by kernel_rfl) (by kernel_rfl) (fun _ _ _ h => h) (Or.inl ⟨by rfl, ?_⟩) ?_
                                rotate_left
                                · intro w; go_simp
                                  try with_reducible rfl
                                simp only [List.getElem_toArray, List.getElem_cons_zero, List.getElem_cons_succ, Act.put, List.setIfInBounds_toArray, List.set_cons_zero, List.set_cons_succ]
                                refine wpAny_ready (rs := [5]) (by kernel_rfl) (by simp) ?_
                                refine AllReady.cons rfl (fun K hK => ?_) AllReady.nil
                                go_simp
                                refine hK _ _ ?_
                                clear hK K
                                refine wpAny_ready (rs := [19]) (by kernel_rfl) (by simp) ?_
                                refine AllReady.cons rfl (fun K hK => ?_) AllReady.nil
                                go_simp
                                refine hK _ _ ?_
                                clear hK K
                                refine wpAny_ready (rs := [20]) (by kernel_rfl) (by simp) ?_
                                refine AllReady.cons rfl (fun K hK => ?_) AllReady.nil
                                go_simp
                                go_wp2_with fail
                                refine (HCL.out _ ?_).mono ?_
                                · exact HST.out.drewN 1
                                rintro e w5 ⟨vv, rfl, hbuf, hb5⟩
                                have hs5 := (HST.out.drewN 1).below hb5
                                obtain ⟨d0, d1, d2, e1, e2⟩ := hs5.cells
                                have hbb : Buf w5 (g + 1) 1 vv mm.length (Lib.byteCells mm) := hbuf.mono (by have := (HST.out.drewN 1).1.lt; exact this)
                                have hput := hs5.put hbb
                                obtain ⟨p5, c5, rfl, -⟩ := hbuf.bys
                                have HP5 := Lib.hid hput
                                clear hbuf hb5 hs5 hput hbb
                                go_wp2_with fail
                                refine wpAny_take (i := 21) (v := ?_) rfl (by kernel_rfl) (by kernel_rfl) (by kernel_rfl) (fun _ _ _ h => h) (Or.inl ⟨by rfl, ?_⟩) ?_
                                rotate_left
                                · intro w; go_simp
                                  try with_reducible rfl
                                simp only [List.getElem_toArray, List.getElem_cons_zero, List.getElem_cons_succ, Act.put, List.setIfInBounds_toArray, List.set_cons_zero, List.set_cons_succ]
                                refine wpAny_take (i := 22) (v := ?_) rfl (by kernel_rfl) (by kernel_rfl) (by kernel_rfl) (fun _ _ _ h => h) (Or.inl ⟨by rfl, ?_⟩) ?_
                                rotate_left
                                · intro w; go_simp
                                  try with_reducible rfl
                                simp only [List.getElem_toArray, List.getElem_cons_zero, List.getElem_cons_succ, Act.put, List.setIfInBounds_toArray, List.set_cons_zero, List.set_cons_succ]
                                refine wpAny_ready (rs := [23]) (by kernel_rfl) (by simp) ?_
                                refine AllReady.cons rfl (fun K hK => ?_) AllReady.nil
                                go_simp
                                refine hK _ _ ?_
                                clear hK K
                                refine wpAny_done (by kernel_rfl) ?_ _
                                go_wp2_with fail
                                go_meet
                                exact ⟨_, HP5.out⟩
                            · go_simp
                              refine hK _ _ ?_
                              clear hK K
                              refine wpAny_take (i := 18) (v := ?_) rfl (by kernel_rfl) (by kernel_rfl) (by kernel_rfl) (fun _ _ _ h => h) (Or.inl ⟨by rfl, ?_⟩) ?_
                              rotate_left
                              · intro w; go_simp
                                try with_reducible rfl
                              simp only [List.getElem_toArray, List.getElem_cons_zero, List.getElem_cons_succ, Act.put, List.setIfInBounds_toArray, List.set_cons_zero, List.set_cons_succ]
                              refine wpAny_ready (rs := [5, 10]) (by kernel_rfl) (by simp) ?_
                              refine AllReady.cons rfl (fun K hK => ?_) (AllReady.cons rfl (fun K hK => ?_) AllReady.nil)
                              · go_simp
                                refine hK _ _ ?_
                                clear hK K
                                refine wpAny_ready (rs := [10]) (by kernel_rfl) (by simp) ?_
                                refine AllReady.cons rfl (fun K hK => ?_) AllReady.nil
                                go_simp
                                refine hK _ _ ?_
                                clear hK K
                                refine wpAny_ready (rs := [19]) (by kernel_rfl) (by simp) ?_
                                refine AllReady.cons rfl (fun K hK => ?_) AllReady.nil
                                go_simp
                                refine hK _ _ ?_
                                clear hK K
                                refine wpAny_ready (rs := [20]) (by kernel_rfl) (by simp) ?_
                                refine AllReady.cons rfl (fun K hK => ?_) AllReady.nil
                                go_simp
                                go_wp2_with fail
                                refine (HCL.out _ ?_).mono ?_
                                · exact HST.out.drewN 1
                                rintro e w5 ⟨vv, rfl, hbuf, hb5⟩
                                have hs5 := (HST.out.drewN 1).below hb5
                                obtain ⟨d0, d1, d2, e1, e2⟩ := hs5.cells
                                have hbb : Buf w5 (g + 1) 1 vv mm.length (Lib.byteCells mm) := hbuf.mono (by have := (HST.out.drewN 1).1.lt; exact this)
                                have hput := hs5.put hbb
                                obtain ⟨p5, c5, rfl, -⟩ := hbuf.bys
                                have HP5 := Lib.hid hput
                                clear hbuf hb5 hs5 hput hbb
                                go_wp2_with fail
                                refine wpAny_take (i := 21) (v := ?_) rfl (by kernel_rfl) (by kernel_rfl) (by kernel_rfl) (fun _ _ _ h => h) (Or.inl ⟨by rfl, ?_⟩) ?_
                                rotate_left
                                · intro w; go_simp
                                  try with_reducible rfl
                                simp only [List.getElem_toArray, List.getElem_cons_zero, List.getElem_cons_succ, Act.put, List.setIfInBounds_toArray, List.set_cons_zero, List.set_cons_succ]
                                refine wpAny_take (i := 22) (v := ?_) rfl (by kernel_rfl) (by kernel_rfl) (by kernel_rfl) (fun _ _ _ h => h) (Or.inl ⟨by rfl, ?_⟩) ?_
                                rotate_left
                                · intro w; go_simp
                                  try with_reducible rfl
                                simp only [List.getElem_toArray, List.getElem_cons_zero, List.getElem_cons_succ, Act.put, List.setIfInBounds_toArray, List.set_cons_zero, List.set_cons_succ]
                                refine wpAny_ready (rs := [23]) (by kernel_rfl) (by simp) ?_
                                refine AllReady.cons rfl (fun K hK => ?_) AllReady.nil
                                go_simp
                                refine hK _ _ ?_
                                clear hK K
                                refine wpAny_done (by kernel_rfl) ?_ _
                                go_wp2_with fail
                                go_meet
                                exact ⟨_, HP5.out⟩
                              · go_simp
                                refine hK _ _ ?_
                                clear hK K
                                refine wpAny_ready (rs := [5]) (by kernel_rfl) (by simp) ?_
                                refine AllReady.cons rfl (fun K hK => ?_) AllReady.nil
                                go_simp
                                refine hK _ _ ?_
                                clear hK K
                                refine wpAny_ready (rs := [19]) (by kernel_rfl) (by simp) ?_
                                refine AllReady.cons rfl (fun K hK => ?_) AllReady.nil
                                go_simp
                                refine hK _ _ ?_
                                clear hK K
                                refine wpAny_ready (rs := [20]) (by kernel_rfl) (by simp) ?_
                                refine AllReady.cons rfl (fun K hK => ?_) AllReady.nil
                                go_simp
                                go_wp2_with fail
                                refine (HCL.out _ ?_).mono ?_
                                · exact HST.out.drewN 1
                                rintro e w5 ⟨vv, rfl, hbuf, hb5⟩
                                have hs5 := (HST.out.drewN 1).below hb5
                                obtain ⟨d0, d1, d2, e1, e2⟩ := hs5.cells
                                have hbb : Buf w5 (g + 1) 1 vv mm.length (Lib.byteCells mm) := hbuf.mono (by have := (HST.out.drewN 1).1.lt; exact this)
                                have hput := hs5.put hbb
                                obtain ⟨p5, c5, rfl, -⟩ := hbuf.bys
                                have HP5 := Lib.hid hput
                                clear hbuf hb5 hs5 hput hbb
                                go_wp2_with fail
                                refine wpAny_take (i := 21) (v := ?_) rfl (by kernel_rfl) (by kernel_rfl) (by kernel_rfl) (fun _ _ _ h => h) (Or.inl ⟨by rfl, ?_⟩) ?_
                                rotate_left
                                · intro w; go_simp
                                  try with_reducible rfl
                                simp only [List.getElem_toArray, List.getElem_cons_zero, List.getElem_cons_succ, Act.put, List.setIfInBounds_toArray, List.set_cons_zero, List.set_cons_succ]
                                refine wpAny_take (i := 22) (v := ?_) rfl (by kernel_rfl) (by kernel_rfl) (by kernel_rfl) (fun _ _ _ h => h) (Or.inl ⟨by rfl, ?_⟩) ?_
                                rotate_left
                                · intro w; go_simp
                                  try with_reducible rfl
                                simp only [List.getElem_toArray, List.getElem_cons_zero, List.getElem_cons_succ, Act.put, List.setIfInBounds_toArray, List.set_cons_zero, List.set_cons_succ]
                                refine wpAny_ready (rs := [23]) (by kernel_rfl) (by simp) ?_
                                refine AllReady.cons rfl (fun K hK => ?_) AllReady.nil
                                go_simp
                                refine hK _ _ ?_
                                clear hK K
                                refine wpAny_done (by kernel_rfl) ?_ _
                                go_wp2_with fail
                                go_meet
                                exact ⟨_, HP5.out⟩
                        case rest =>
                          obtain ⟨out, hst⟩ := hcut
                          obtain ⟨c0, c1, c2, f1, f2⟩ := hst.cells
                          have HS9 := Lib.hid hst
                          clear hst
                          go_wp2_with fail
                          go_ret
                          rw [R.out]
                          refine ⟨rfl, out, ?_⟩
                          have := HS9.out.take (w' := wc.setCell ⟨g, 1, none⟩ (.int .i64 ((a3 : Int) + v))) (i := 0) rfl
                          rw [show ((a3 : Int) + v) = ((a3 + v : Nat) : Int) by omega] at this
                          exact this
                    · have R : Hid (r = none) := Lib.hid (by rw [R0.out, if_neg (by rintro ⟨_, _, _, h⟩; have := HN.out; have := HA3.out; omega)])
                      have hw1 : decide ((n : Int) - a3 < v) = true := decide_eq_true (by omega)
                      clear h13 h10 hv R0
                      go_cut [97] (fun s97 wx => s97 = .bool true ∧ Below g w0 wx)
                      case first =>
                        obtain ⟨q1, q2, q3, q4, q5⟩ := Q.out
                        refine wp_region_any (by kernel_rfl) ?_
                        change wpAny _ _ _ _ _ _ _ (World.drew _)
                        refine wpAny_take (i := 0) (v := ?_) rfl (by kernel_rfl) (by kernel_rfl) (by kernel_rfl) (fun _ _ _ h => h) (Or.inl ⟨by rfl, ?_⟩) ?_
                        rotate_left
                        · intro w; go_simp
                          try with_reducible rfl
                        simp only [List.getElem_toArray, List.getElem_cons_zero, Act.put, List.setIfInBounds_toArray, List.set_cons_zero, List.set_cons_succ]
                        refine wpAny_take (i := 1) (v := ?_) rfl (by kernel_rfl) (by kernel_rfl) (by kernel_rfl) (fun _ _ _ h => h) (Or.inl ⟨by rfl, ?_⟩) ?_
                        rotate_left
                        · intro w; go_simp
                          try with_reducible rfl
                        simp only [List.getElem_toArray, List.getElem_cons_zero, List.getElem_cons_succ, Act.put, List.setIfInBounds_toArray, List.set_cons_zero, List.set_cons_succ]
                        refine wpAny_take (i := 2) (v := ?_) rfl (by kernel_rfl) (by kernel_rfl) (by kernel_rfl) (fun _ _ _ h => h) (Or.inl ⟨by rfl, ?_⟩) ?_
                        rotate_left
                        · intro w; go_simp
                          try with_reducible rfl
                        simp only [List.getElem_toArray, List.getElem_cons_zero, List.getElem_cons_succ, Act.put, List.setIfInBounds_toArray, List.set_cons_zero, List.set_cons_succ]
                        refine wpAny_take (i := 3) (v := ?_) rfl (by kernel_rfl) (by kernel_rfl) (by kernel_rfl) (fun _ _ _ h => h) (Or.inl ⟨by rfl, ?_⟩) ?_
                        rotate_left
                        · intro w; go_simp
                          try with_reducible rfl
                        simp only [List.getElem_toArray, List.getElem_cons_zero, List.getElem_cons_succ, Act.put, List.setIfInBounds_toArray, List.set_cons_zero, List.set_cons_succ]
                        refine wpAny_take (i := 4) (v := ?_) rfl (by kernel_rfl) (by kernel_rfl) (by kernel_rfl) (fun _ _ _ h => h) (Or.inl ⟨by rfl, ?_⟩) ?_
                        rotate_left
                        · intro w; go_simp
                          try with_reducible rfl
                        simp only [List.getElem_toArray, List.getElem_cons_zero, List.getElem_cons_succ, Act.put, List.setIfInBounds_toArray, List.set_cons_zero, List.set_cons_succ]
                        refine wpAny_take (i := 5) (v := ?_) rfl (by kernel_rfl) (by kernel_rfl) (by kernel_rfl) (fun _ _ _ h => h) (Or.inl ⟨by rfl, ?_⟩) ?_
                        rotate_left
                        · intro w; go_simp
                          try with_reducible rfl
                        simp only [List.getElem_toArray, List.getElem_cons_zero, List.getElem_cons_succ, Act.put, List.setIfInBounds_toArray, List.set_cons_zero, List.set_cons_succ]
                        refine wpAny_take (i := 6) (v := ?_) rfl (by kernel_rfl) (by kernel_rfl) (by kernel_rfl) (fun _ _ _ h => h) (Or.inl ⟨by rfl, ?_⟩) ?_
                        rotate_left
                        · intro w; go_simp
                          try with_reducible rfl
                        simp only [List.getElem_toArray, List.getElem_cons_zero, List.getElem_cons_succ, Act.put, List.setIfInBounds_toArray, List.set_cons_zero, List.set_cons_succ]
                        refine wpAny_take (i := 10) (v := ?_) rfl (by kernel_rfl) (by kernel_rfl) (by kernel_rfl) (fun _ _ _ h => h) (Or.inl ⟨by rfl, ?_⟩) ?_
                        rotate_left
                        · intro w; go_simp
                          try with_reducible rfl
                        simp only [List.getElem_toArray, List.getElem_cons_zero, List.getElem_cons_succ, Act.put, List.setIfInBounds_toArray, List.set_cons_zero, List.set_cons_succ]
                        refine wpAny_take (i := 7) (v := ?_) rfl (by kernel_rfl) (by kernel_rfl) (by kernel_rfl) (fun _ _ _ h => h) (Or.inl ⟨by rfl, ?_⟩) ?_
                        rotate_left
                        · intro w; go_simp
                          try with_reducible rfl
                        simp only [List.getElem_toArray, List.getElem_cons_zero, List.getElem_cons_succ, Act.put, List.setIfInBounds_toArray, List.set_cons_zero, List.set_cons_succ]
                        refine wpAny_take (i := 8) (v := ?_) rfl (by kernel_rfl) (by kernel_rfl) (by kernel_rfl) (fun _ _ _ h => h) (Or.inl ⟨by rfl, ?_⟩) ?_
                        rotate_left
                        · intro w; go_simp
                          try with_reducible rfl
                        simp only [List.getElem_toArray, List.getElem_cons_zero, List.getElem_cons_succ, Act.put, List.setIfInBounds_toArray, List.set_cons_zero, List.set_cons_succ]
                        refine wpAny_take (i := 9) (v := ?_) rfl (by kernel_rfl) (by kernel_rfl) (by kernel_rfl) (fun _ _ _ h => h) (Or.inl ⟨by rfl, ?_⟩) ?_
                        rotate_left
                        · intro w; go_simp
                          try with_reducible rfl
                        simp only [List.getElem_toArray, List.getElem_cons_zero, List.getElem_cons_succ, Act.put, List.setIfInBounds_toArray, List.set_cons_zero, List.set_cons_succ]
                        refine wpAny_ready (rs := [11]) (by kernel_rfl) (by simp) ?_
                        refine AllReady.cons rfl (fun K hK => ?_) AllReady.nil
                        go_simp
                        go_wp2_with (go_at_call 44; refine (H13.out _ ?_).mono ?_; exact HS3.out.drewN 1; rintro e w5 ⟨rfl, hs5⟩; have HS5 := Lib.hid hs5; clear hs5)
                        refine wpAny_take (i := 12) (v := ?_) rfl (by kernel_rfl) (by kernel_rfl) (by kernel_rfl) (fun _ _ _ h => h) (Or.inl ⟨by rfl, ?_⟩) ?_
                        rotate_left
                        · intro w; go_simp
                          try with_reducible rfl
                        simp only [List.getElem_toArray, List.getElem_cons_zero, List.getElem_cons_succ, Act.put, List.setIfInBounds_toArray, List.set_cons_zero, List.set_cons_succ]
                        refine wpAny_take (i := 13) (v := ?_) rfl (by kernel_rfl) (by kernel_rfl) (by kernel_rfl) (fun _ _ _ h => h) (Or.inl ⟨by rfl, ?_⟩) ?_
                        rotate_left
                        · intro w; go_simp
                          try with_reducible rfl
                        simp only [List.getElem_toArray, List.getElem_cons_zero, List.getElem_cons_succ, Act.put, List.setIfInBounds_toArray, List.set_cons_zero, List.set_cons_succ]
                        refine wpAny_take (i := 14) (v := ?_) rfl (by kernel_rfl) (by kernel_rfl) (by kernel_rfl) (fun _ _ _ h => h) (Or.inl ⟨by rfl, ?_⟩) ?_
                        rotate_left
                        · intro w; go_simp
                          try with_reducible rfl
                        simp only [List.getElem_toArray, List.getElem_cons_zero, List.getElem_cons_succ, Act.put, List.setIfInBounds_toArray, List.set_cons_zero, List.set_cons_succ]
                        refine wpAny_take (i := 18) (v := ?_) rfl (by kernel_rfl) (by kernel_rfl) (by kernel_rfl) (fun _ _ _ h => h) (Or.inl ⟨by rfl, ?_⟩) ?_
                        rotate_left
                        · intro w; go_simp
                          try with_reducible rfl
                        simp only [List.getElem_toArray, List.getElem_cons_zero, List.getElem_cons_succ, Act.put, List.setIfInBounds_toArray, List.set_cons_zero, List.set_cons_succ]
                        refine wpAny_take (i := 15) (v := ?_) rfl (by kernel_rfl) (by kernel_rfl) (by kernel_rfl) (fun _ _ _ h => h) (Or.inl ⟨by rfl, ?_⟩) ?_
                        rotate_left
                        · intro w; go_simp
                          try with_reducible rfl
                        simp only [List.getElem_toArray, List.getElem_cons_zero, List.getElem_cons_succ, Act.put, List.setIfInBounds_toArray, List.set_cons_zero, List.set_cons_succ]
                        refine wpAny_take (i := 16) (v := ?_) rfl (by kernel_rfl) (by kernel_rfl) (by kernel_rfl) (fun _ _ _ h => h) (Or.inl ⟨by rfl, ?_⟩) ?_
                        rotate_left
                        · intro w; go_simp
                          try with_reducible rfl
                        simp only [List.getElem_toArray, List.getElem_cons_zero, List.getElem_cons_succ, Act.put, List.setIfInBounds_toArray, List.set_cons_zero, List.set_cons_succ]
                        refine wpAny_take (i := 17) (v := ?_) rfl (by kernel_rfl) (by kernel_rfl) (by kernel_rfl) (fun _ _ _ h => h) (Or.inl ⟨by rfl, ?_⟩) ?_
                        rotate_left
                        · intro w; go_simp
                          try with_reducible rfl
                        simp only [List.getElem_toArray, List.getElem_cons_zero, List.getElem_cons_succ, Act.put, List.setIfInBounds_toArray, List.set_cons_zero, List.set_cons_succ]
                        refine wpAny_ready (rs := [19]) (by kernel_rfl) (by simp) ?_
                        refine AllReady.cons rfl (fun K hK => ?_) AllReady.nil
                        go_simp
                        go_wp2_with (go_at_call 44; refine (H10.out _ ?_).mono ?_; exact HS5.out; rintro e w6 ⟨rfl, hs6⟩; have HS6 := Lib.hid hs6; clear hs6)
                        refine wpAny_take (i := 20) (v := ?_) rfl (by kernel_rfl) (by kernel_rfl) (by kernel_rfl) (fun _ _ _ h => h) (Or.inl ⟨by rfl, ?_⟩) ?_
                        rotate_left
                        · intro w; go_simp
                          try with_reducible rfl
                        simp only [List.getElem_toArray, List.getElem_cons_zero, List.getElem_cons_succ, Act.put, List.setIfInBounds_toArray, List.set_cons_zero, List.set_cons_succ]
                        refine wpAny_take (i := 21) (v := ?_) rfl (by kernel_rfl) (by kernel_rfl) (by kernel_rfl) (fun _ _ _ h => h) (Or.inl ⟨by rfl, ?_⟩) ?_
                        rotate_left
                        · intro w; go_simp
                          try with_reducible rfl
                        simp only [List.getElem_toArray, List.getElem_cons_zero, List.getElem_cons_succ, Act.put, List.setIfInBounds_toArray, List.set_cons_zero, List.set_cons_succ]
                        refine wpAny_take (i := 22) (v := ?_) rfl (by kernel_rfl) (by kernel_rfl) (by kernel_rfl) (fun _ _ _ h => h) (Or.inl ⟨by rfl, ?_⟩) ?_
                        rotate_left
                        · intro w; go_simp
                          try with_reducible rfl
                        simp only [List.getElem_toArray, List.getElem_cons_zero, List.getElem_cons_succ, Act.put, List.setIfInBounds_toArray, List.set_cons_zero, List.set_cons_succ]
                        refine wpAny_take (i := 23) (v := ?_) rfl (by kernel_rfl) (by kernel_rfl) (by kernel_rfl) (fun _ _ _ h => h) (Or.inl ⟨by rfl, ?_⟩) ?_
                        rotate_left
                        · intro w; go_simp
                          try with_reducible rfl
                        simp only [List.getElem_toArray, List.getElem_cons_zero, List.getElem_cons_succ, Act.put, List.setIfInBounds_toArray, List.set_cons_zero, List.set_cons_succ]
                        refine wpAny_take (i := 24) (v := ?_) rfl (by kernel_rfl) (by kernel_rfl) (by kernel_rfl) (fun _ _ _ h => h) (Or.inl ⟨by rfl, ?_⟩) ?_
                        rotate_left
                        · intro w; go_simp
                          try with_reducible rfl
                        simp only [List.getElem_toArray, List.getElem_cons_zero, List.getElem_cons_succ, Act.put, List.setIfInBounds_toArray, List.set_cons_zero, List.set_cons_succ]
                        refine wpAny_take (i := 25) (v := ?_) rfl (by kernel_rfl) (by kernel_rfl) (by kernel_rfl) (fun _ _ _ h => h) (Or.inl ⟨by rfl, ?_⟩) ?_
                        rotate_left
                        · intro w; go_simp
                          try with_reducible rfl
                        simp only [List.getElem_toArray, List.getElem_cons_zero, List.getElem_cons_succ, Act.put, List.setIfInBounds_toArray, List.set_cons_zero, List.set_cons_succ]
                        refine wpAny_take (i := 26) (v := ?_) rfl (by kernel_rfl) (by kernel_rfl) (by kernel_rfl) (fun _ _ _ h => h) (Or.inl ⟨by rfl, ?_⟩) ?_
                        rotate_left
                        · intro w; go_simp
                          try with_reducible rfl
                        simp only [List.getElem_toArray, List.getElem_cons_zero, List.getElem_cons_succ, Act.put, List.setIfInBounds_toArray, List.set_cons_zero, List.set_cons_succ]
                        refine wpAny_take (i := 27) (v := ?_) rfl (by kernel_rfl) (by kernel_rfl) (by kernel_rfl) (fun _ _ _ h => h) (Or.inl ⟨by rfl, ?_⟩) ?_
                        rotate_left
                        · intro w; go_simp
                          try with_reducible rfl
                        simp only [List.getElem_toArray, List.getElem_cons_zero, List.getElem_cons_succ, Act.put, List.setIfInBounds_toArray, List.set_cons_zero, List.set_cons_succ]
                        refine wpAny_take (i := 28) (v := ?_) rfl (by kernel_rfl) (by kernel_rfl) (by kernel_rfl) (fun _ _ _ h => h) (Or.inl ⟨by rfl, ?_⟩) ?_
                        rotate_left
                        · intro w; go_simp
                          try with_reducible rfl
                        simp only [List.getElem_toArray, List.getElem_cons_zero, List.getElem_cons_succ, Act.put, List.setIfInBounds_toArray, List.set_cons_zero, List.set_cons_succ]
                        refine wpAny_take (i := 31) (v := ?_) rfl (by kernel_rfl) (by kernel_rfl) (by kernel_rfl) (fun _ _ _ h => h) (Or.inl ⟨by rfl, ?_⟩) ?_
                        rotate_left
                        · intro w; go_simp
                          try with_reducible rfl
                        simp only [List.getElem_toArray, List.getElem_cons_zero, List.getElem_cons_succ, Act.put, List.setIfInBounds_toArray, List.set_cons_zero, List.set_cons_succ]
                        refine wpAny_take (i := 32) (v := ?_) rfl (by kernel_rfl) (by kernel_rfl) (by kernel_rfl) (fun _ _ _ h => h) (Or.inl ⟨by rfl, ?_⟩) ?_
                        rotate_left
                        · intro w; go_simp
                          try with_reducible rfl
                        simp only [List.getElem_toArray, List.getElem_cons_zero, List.getElem_cons_succ, Act.put, List.setIfInBounds_toArray, List.set_cons_zero, List.set_cons_succ]
                        refine wpAny_take (i := 33) (v := ?_) rfl (by kernel_rfl) (by kernel_rfl) (by kernel_rfl) (fun _ _ _ h => h) (Or.inl ⟨by rfl, ?_⟩) ?_
                        rotate_left
                        · intro w; go_simp
                          try with_reducible rfl
                        simp only [List.getElem_toArray, List.getElem_cons_zero, List.getElem_cons_succ, Act.put, List.setIfInBounds_toArray, List.set_cons_zero, List.set_cons_succ]
                        refine wpAny_take (i := 34) (v := ?_) rfl (by kernel_rfl) (by kernel_rfl) (by kernel_rfl) (fun _ _ _ h => h) (Or.inl ⟨by rfl, ?_⟩) ?_
                        rotate_left
                        · intro w; go_simp
                          try with_reducible rfl
                        simp only [List.getElem_toArray, List.getElem_cons_zero, List.getElem_cons_succ, Act.put, List.setIfInBounds_toArray, List.set_cons_zero, List.set_cons_succ]
                        obtain ⟨c0, c1, c2, f1, f2⟩ := HS6.out.cells
                        refine wpAny_ready (rs := [29, 35]) (by kernel_rfl) (by simp) ?_
                        refine AllReady.cons rfl (fun K hK => ?_) (AllReady.cons rfl (fun K hK => ?_) AllReady.nil)
                        · go_simp
                          refine hK _ _ ?_
                          clear hK K
                          refine wpAny_take (i := 30) (v := ?_) rfl (by kernel_rfl) (by kernel_rfl) (by kernel_rfl) (fun _ _ _ h => h) (Or.inl ⟨by rfl, ?_⟩) ?_
                          rotate_left
                          · intro w; go_simp
                            try with_reducible rfl
                          simp only [List.getElem_toArray, List.getElem_cons_zero, List.getElem_cons_succ, Act.put, List.setIfInBounds_toArray, List.set_cons_zero, List.set_cons_succ]
                          refine wpAny_ready (rs := [35]) (by kernel_rfl) (by simp) ?_
                          refine AllReady.cons rfl (fun K hK => ?_) AllReady.nil
                          go_simp
                          refine hK _ _ ?_
                          clear hK K
                          refine wpAny_take (i := 36) (v := ?_) rfl (by kernel_rfl) (by kernel_rfl) (by kernel_rfl) (fun _ _ _ h => h) (Or.inl ⟨by rfl, ?_⟩) ?_
                          rotate_left
                          · intro w; go_simp
                            try with_reducible rfl
                          simp only [List.getElem_toArray, List.getElem_cons_zero, List.getElem_cons_succ, Act.put, List.setIfInBounds_toArray, List.set_cons_zero, List.set_cons_succ]
                          refine wpAny_take (i := 37) (v := ?_) rfl (by kernel_rfl) (by kernel_rfl) (by kernel_rfl) (fun _ _ _ h => h) (Or.inl ⟨by rfl, ?_⟩) ?_
                          rotate_left
                          · intro w; go_simp
                            try with_reducible rfl
                          simp only [List.getElem_toArray, List.getElem_cons_zero, List.getElem_cons_succ, Act.put, List.setIfInBounds_toArray, List.set_cons_zero, List.set_cons_succ]
                          refine wpAny_take (i := 38) (v := ?_) rfl (by kernel_rfl) (by kernel_rfl) (by kernel_rfl) (fun _ _ _ h => h) (Or.inl ⟨by rfl, ?_⟩) ?_
                          rotate_left
                          · intro w; go_simp
                            try with_reducible rfl
                          simp only [List.getElem_toArray, List.getElem_cons_zero, List.getElem_cons_succ, Act.put, List.setIfInBounds_toArray, List.set_cons_zero, List.set_cons_succ]
                          refine wpAny_done (by kernel_rfl) ?_ _
                          go_wp2_with fail
                          go_meet
                          exact ⟨rfl, HS6.out.2.2⟩
                        · go_simp
                          refine hK _ _ ?_
                          clear hK K
                          refine wpAny_ready (rs := [29]) (by kernel_rfl) (by simp) ?_
                          refine AllReady.cons rfl (fun K hK => ?_) AllReady.nil
                          go_simp
                          refine hK _ _ ?_
                          clear hK K
                          refine wpAny_take (i := 30) (v := ?_) rfl (by kernel_rfl) (by kernel_rfl) (by kernel_rfl) (fun _ _ _ h => h) (Or.inl ⟨by rfl, ?_⟩) ?_
                          rotate_left
                          · intro w; go_simp
                            try with_reducible rfl
                          simp only [List.getElem_toArray, List.getElem_cons_zero, List.getElem_cons_succ, Act.put, List.setIfInBounds_toArray, List.set_cons_zero, List.set_cons_succ]
                          refine wpAny_take (i := 36) (v := ?_) rfl (by kernel_rfl) (by kernel_rfl) (by kernel_rfl) (fun _ _ _ h => h) (Or.inl ⟨by rfl, ?_⟩) ?_
                          rotate_left
                          · intro w; go_simp
                            try with_reducible rfl
                          simp only [List.getElem_toArray, List.getElem_cons_zero, List.getElem_cons_succ, Act.put, List.setIfInBounds_toArray, List.set_cons_zero, List.set_cons_succ]
                          refine wpAny_take (i := 37) (v := ?_) rfl (by kernel_rfl) (by kernel_rfl) (by kernel_rfl) (fun _ _ _ h => h) (Or.inl ⟨by rfl, ?_⟩) ?_
                          rotate_left
                          · intro w; go_simp
                            try with_reducible rfl
                          simp only [List.getElem_toArray, List.getElem_cons_zero, List.getElem_cons_succ, Act.put, List.setIfInBounds_toArray, List.set_cons_zero, List.set_cons_succ]
                          refine wpAny_take (i := 38) (v := ?_) rfl (by kernel_rfl) (by kernel_rfl) (by kernel_rfl) (fun _ _ _ h => h) (Or.inl ⟨by rfl, ?_⟩) ?_
                          rotate_left
                          · intro w; go_simp
                            try with_reducible rfl
                          simp only [List.getElem_toArray, List.getElem_cons_zero, List.getElem_cons_succ, Act.put, List.setIfInBounds_toArray, List.set_cons_zero, List.set_cons_succ]
                          refine wpAny_done (by kernel_rfl) ?_ _
                          go_wp2_with fail
                          go_meet
                          exact ⟨rfl, HS6.out.2.2⟩
                        all_goals
                          go_wp2_with fail
                          go_meet
                          exact ⟨rfl, HS6.out.2.2⟩
                      case rest =>
                        obtain ⟨rfl, hst⟩ := hcut
                        have HST := Lib.hid hst
                        clear hst
                        go_wp2_with fail
                        go_ret
                        rw [R.out]
                        exact ⟨rfl, HST.out⟩
                  · have R : Hid (r = none) := Lib.hid (by rw [R0.out, if_neg (by rintro ⟨_, _, h, _⟩; exact h10 h)])
                    have H10 := Lib.hid (fun W (hW : St w0 W g (some ⟨p, o, none⟩) n c ((t + j + 1 + 1 : Nat) : Int) (.slice none 0 0) []) => is_false 10 hW HBY.out HN.out hn5 hpg h10)
                    rw [show ((10 : UInt8).toNat : Int) = 10 from rfl] at H10
                    clear h13 h10 hv R0
                    go_cut [97] (fun s97 wx => s97 = .bool true ∧ Below g w0 wx)
                    case first =>
                      refine wp_region_any (by kernel_rfl) ?_
                      change wpAny _ _ _ _ _ _ _ (World.drew _)
                      refine wpAny_take (i := 0) (v := ?_) rfl (by kernel_rfl) (by kernel_rfl) (by kernel_rfl) (fun _ _ _ h => h) (Or.inl ⟨by rfl, ?_⟩) ?_
                      rotate_left
                      · intro w; go_simp
                        try with_reducible rfl
                      simp only [List.getElem_toArray, List.getElem_cons_zero, Act.put, List.setIfInBounds_toArray, List.set_cons_zero, List.set_cons_succ]
                      refine wpAny_take (i := 1) (v := ?_) rfl (by kernel_rfl) (by kernel_rfl) (by kernel_rfl) (fun _ _ _ h => h) (Or.inl ⟨by rfl, ?_⟩) ?_
                      rotate_left
                      · intro w; go_simp
                        try with_reducible rfl
                      simp only [List.getElem_toArray, List.getElem_cons_zero, List.getElem_cons_succ, Act.put, List.setIfInBounds_toArray, List.set_cons_zero, List.set_cons_succ]
                      refine wpAny_take (i := 2) (v := ?_) rfl (by kernel_rfl) (by kernel_rfl) (by kernel_rfl) (fun _ _ _ h => h) (Or.inl ⟨by rfl, ?_⟩) ?_
                      rotate_left
                      · intro w; go_simp
                        try with_reducible rfl
                      simp only [List.getElem_toArray, List.getElem_cons_zero, List.getElem_cons_succ, Act.put, List.setIfInBounds_toArray, List.set_cons_zero, List.set_cons_succ]
                      refine wpAny_take (i := 3) (v := ?_) rfl (by kernel_rfl) (by kernel_rfl) (by kernel_rfl) (fun _ _ _ h => h) (Or.inl ⟨by rfl, ?_⟩) ?_
                      rotate_left
                      · intro w; go_simp
                        try with_reducible rfl
                      simp only [List.getElem_toArray, List.getElem_cons_zero, List.getElem_cons_succ, Act.put, List.setIfInBounds_toArray, List.set_cons_zero, List.set_cons_succ]
                      refine wpAny_take (i := 4) (v := ?_) rfl (by kernel_rfl) (by kernel_rfl) (by kernel_rfl) (fun _ _ _ h => h) (Or.inl ⟨by rfl, ?_⟩) ?_
                      rotate_left
                      · intro w; go_simp
                        try with_reducible rfl
                      simp only [List.getElem_toArray, List.getElem_cons_zero, List.getElem_cons_succ, Act.put, List.setIfInBounds_toArray, List.set_cons_zero, List.set_cons_succ]
                      refine wpAny_take (i := 5) (v := ?_) rfl (by kernel_rfl) (by kernel_rfl) (by kernel_rfl) (fun _ _ _ h => h) (Or.inl ⟨by rfl, ?_⟩) ?_
                      rotate_left
                      · intro w; go_simp
                        try with_reducible rfl
                      simp only [List.getElem_toArray, List.getElem_cons_zero, List.getElem_cons_succ, Act.put, List.setIfInBounds_toArray, List.set_cons_zero, List.set_cons_succ]
                      refine wpAny_take (i := 6) (v := ?_) rfl (by kernel_rfl) (by kernel_rfl) (by kernel_rfl) (fun _ _ _ h => h) (Or.inl ⟨by rfl, ?_⟩) ?_
                      rotate_left
                      · intro w; go_simp
                        try with_reducible rfl
                      simp only [List.getElem_toArray, List.getElem_cons_zero, List.getElem_cons_succ, Act.put, List.setIfInBounds_toArray, List.set_cons_zero, List.set_cons_succ]
                      refine wpAny_take (i := 10) (v := ?_) rfl (by kernel_rfl) (by kernel_rfl) (by kernel_rfl) (fun _ _ _ h => h) (Or.inl ⟨by rfl, ?_⟩) ?_
                      rotate_left
                      · intro w; go_simp
                        try with_reducible rfl
                      simp only [List.getElem_toArray, List.getElem_cons_zero, List.getElem_cons_succ, Act.put, List.setIfInBounds_toArray, List.set_cons_zero, List.set_cons_succ]
                      refine wpAny_take (i := 7) (v := ?_) rfl (by kernel_rfl) (by kernel_rfl) (by kernel_rfl) (fun _ _ _ h => h) (Or.inl ⟨by rfl, ?_⟩) ?_
                      rotate_left
                      · intro w; go_simp
                        try with_reducible rfl
                      simp only [List.getElem_toArray, List.getElem_cons_zero, List.getElem_cons_succ, Act.put, List.setIfInBounds_toArray, List.set_cons_zero, List.set_cons_succ]
                      refine wpAny_take (i := 8) (v := ?_) rfl (by kernel_rfl) (by kernel_rfl) (by kernel_rfl) (fun _ _ _ h => h) (Or.inl ⟨by rfl, ?_⟩) ?_
                      rotate_left
                      · intro w; go_simp
                        try with_reducible rfl
                      simp only [List.getElem_toArray, List.getElem_cons_zero, List.getElem_cons_succ, Act.put, List.setIfInBounds_toArray, List.set_cons_zero, List.set_cons_succ]
                      refine wpAny_take (i := 9) (v := ?_) rfl (by kernel_rfl) (by kernel_rfl) (by kernel_rfl) (fun _ _ _ h => h) (Or.inl ⟨by rfl, ?_⟩) ?_
                      rotate_left
                      · intro w; go_simp
                        try with_reducible rfl
                      simp only [List.getElem_toArray, List.getElem_cons_zero, List.getElem_cons_succ, Act.put, List.setIfInBounds_toArray, List.set_cons_zero, List.set_cons_succ]
                      refine wpAny_ready (rs := [11]) (by kernel_rfl) (by simp) ?_
                      refine AllReady.cons rfl (fun K hK => ?_) AllReady.nil
                      go_simp
                      go_wp2_with (go_at_call 44; refine (H13.out _ ?_).mono ?_; exact HS3.out.drewN 1; rintro e w5 ⟨rfl, hs5⟩; have HS5 := Lib.hid hs5; clear hs5)
                      refine wpAny_take (i := 12) (v := ?_) rfl (by kernel_rfl) (by kernel_rfl) (by kernel_rfl) (fun _ _ _ h => h) (Or.inl ⟨by rfl, ?_⟩) ?_
                      rotate_left
                      · intro w; go_simp
                        try with_reducible rfl
                      simp only [List.getElem_toArray, List.getElem_cons_zero, List.getElem_cons_succ, Act.put, List.setIfInBounds_toArray, List.set_cons_zero, List.set_cons_succ]
                      refine wpAny_take (i := 13) (v := ?_) rfl (by kernel_rfl) (by kernel_rfl) (by kernel_rfl) (fun _ _ _ h => h) (Or.inl ⟨by rfl, ?_⟩) ?_
                      rotate_left
                      · intro w; go_simp
                        try with_reducible rfl
                      simp only [List.getElem_toArray, List.getElem_cons_zero, List.getElem_cons_succ, Act.put, List.setIfInBounds_toArray, List.set_cons_zero, List.set_cons_succ]
                      refine wpAny_take (i := 14) (v := ?_) rfl (by kernel_rfl) (by kernel_rfl) (by kernel_rfl) (fun _ _ _ h => h) (Or.inl ⟨by rfl, ?_⟩) ?_
                      rotate_left
                      · intro w; go_simp
                        try with_reducible rfl
                      simp only [List.getElem_toArray, List.getElem_cons_zero, List.getElem_cons_succ, Act.put, List.setIfInBounds_toArray, List.set_cons_zero, List.set_cons_succ]
                      refine wpAny_take (i := 18) (v := ?_) rfl (by kernel_rfl) (by kernel_rfl) (by kernel_rfl) (fun _ _ _ h => h) (Or.inl ⟨by rfl, ?_⟩) ?_
                      rotate_left
                      · intro w; go_simp
                        try with_reducible rfl
                      simp only [List.getElem_toArray, List.getElem_cons_zero, List.getElem_cons_succ, Act.put, List.setIfInBounds_toArray, List.set_cons_zero, List.set_cons_succ]
                      refine wpAny_take (i := 15) (v := ?_) rfl (by kernel_rfl) (by kernel_rfl) (by kernel_rfl) (fun _ _ _ h => h) (Or.inl ⟨by rfl, ?_⟩) ?_
                      rotate_left
                      · intro w; go_simp
                        try with_reducible rfl
                      simp only [List.getElem_toArray, List.getElem_cons_zero, List.getElem_cons_succ, Act.put, List.setIfInBounds_toArray, List.set_cons_zero, List.set_cons_succ]
                      refine wpAny_take (i := 16) (v := ?_) rfl (by kernel_rfl) (by kernel_rfl) (by kernel_rfl) (fun _ _ _ h => h) (Or.inl ⟨by rfl, ?_⟩) ?_
                      rotate_left
                      · intro w; go_simp
                        try with_reducible rfl
                      simp only [List.getElem_toArray, List.getElem_cons_zero, List.getElem_cons_succ, Act.put, List.setIfInBounds_toArray, List.set_cons_zero, List.set_cons_succ]
                      refine wpAny_take (i := 17) (v := ?_) rfl (by kernel_rfl) (by kernel_rfl) (by kernel_rfl) (fun _ _ _ h => h) (Or.inl ⟨by rfl, ?_⟩) ?_
                      rotate_left
                      · intro w; go_simp
                        try with_reducible rfl
                      simp only [List.getElem_toArray, List.getElem_cons_zero, List.getElem_cons_succ, Act.put, List.setIfInBounds_toArray, List.set_cons_zero, List.set_cons_succ]
                      refine wpAny_ready (rs := [19]) (by kernel_rfl) (by simp) ?_
                      refine AllReady.cons rfl (fun K hK => ?_) AllReady.nil
                      go_simp
                      go_wp2_with (go_at_call 44; refine (H10.out _ ?_).mono ?_; exact HS5.out; rintro e w6 ⟨rfl, hs6⟩; have HS6 := Lib.hid hs6; clear hs6)
                      refine wpAny_take (i := 20) (v := ?_) rfl (by kernel_rfl) (by kernel_rfl) (by kernel_rfl) (fun _ _ _ h => h) (Or.inl ⟨by rfl, ?_⟩) ?_
                      rotate_left
                      · intro w; go_simp
                        try with_reducible rfl
                      simp only [List.getElem_toArray, List.getElem_cons_zero, List.getElem_cons_succ, Act.put, List.setIfInBounds_toArray, List.set_cons_zero, List.set_cons_succ]
                      refine wpAny_take (i := 21) (v := ?_) rfl (by kernel_rfl) (by kernel_rfl) (by kernel_rfl) (fun _ _ _ h => h) (Or.inl ⟨by rfl, ?_⟩) ?_
                      rotate_left
                      · intro w; go_simp
                        try with_reducible rfl
                      simp only [List.getElem_toArray, List.getElem_cons_zero, List.getElem_cons_succ, Act.put, List.setIfInBounds_toArray, List.set_cons_zero, List.set_cons_succ]
                      refine wpAny_take (i := 22) (v := ?_) rfl (by kernel_rfl) (by kernel_rfl) (by kernel_rfl) (fun _ _ _ h => h) (Or.inl ⟨by rfl, ?_⟩) ?_
                      rotate_left
                      · intro w; go_simp
                        try with_reducible rfl
                      simp only [List.getElem_toArray, List.getElem_cons_zero, List.getElem_cons_succ, Act.put, List.setIfInBounds_toArray, List.set_cons_zero, List.set_cons_succ]
                      refine wpAny_take (i := 23) (v := undef) rfl (by kernel_rfl) (by kernel_rfl) (by kernel_rfl) (fun _ _ _ h => h) (Or.inr ⟨by rfl, rfl⟩) ?_
                      simp only [List.getElem_toArray, List.getElem_cons_zero, List.getElem_cons_succ, Act.put, List.setIfInBounds_toArray, List.set_cons_zero, List.set_cons_succ]
                      refine wpAny_take (i := 24) (v := undef) rfl (by kernel_rfl) (by kernel_rfl) (by kernel_rfl) (fun _ _ _ h => h) (Or.inr ⟨by rfl, rfl⟩) ?_
                      simp only [List.getElem_toArray, List.getElem_cons_zero, List.getElem_cons_succ, Act.put, List.setIfInBounds_toArray, List.set_cons_zero, List.set_cons_succ]
                      refine wpAny_take (i := 25) (v := undef) rfl (by kernel_rfl) (by kernel_rfl) (by kernel_rfl) (fun _ _ _ h => h) (Or.inr ⟨by rfl, rfl⟩) ?_
                      simp only [List.getElem_toArray, List.getElem_cons_zero, List.getElem_cons_succ, Act.put, List.setIfInBounds_toArray, List.set_cons_zero, List.set_cons_succ]
                      refine wpAny_take (i := 26) (v := undef) rfl (by kernel_rfl) (by kernel_rfl) (by kernel_rfl) (fun _ _ _ h => h) (Or.inr ⟨by rfl, rfl⟩) ?_
                      simp only [List.getElem_toArray, List.getElem_cons_zero, List.getElem_cons_succ, Act.put, List.setIfInBounds_toArray, List.set_cons_zero, List.set_cons_succ]
                      refine wpAny_take (i := 27) (v := undef) rfl (by kernel_rfl) (by kernel_rfl) (by kernel_rfl) (fun _ _ _ h => h) (Or.inr ⟨by rfl, rfl⟩) ?_
                      simp only [List.getElem_toArray, List.getElem_cons_zero, List.getElem_cons_succ, Act.put, List.setIfInBounds_toArray, List.set_cons_zero, List.set_cons_succ]
                      refine wpAny_take (i := 28) (v := undef) rfl (by kernel_rfl) (by kernel_rfl) (by kernel_rfl) (fun _ _ _ h => h) (Or.inr ⟨by rfl, rfl⟩) ?_
                      simp only [List.getElem_toArray, List.getElem_cons_zero, List.getElem_cons_succ, Act.put, List.setIfInBounds_toArray, List.set_cons_zero, List.set_cons_succ]
                      refine wpAny_take (i := 29) (v := undef) rfl (by kernel_rfl) (by kernel_rfl) (by kernel_rfl) (fun _ _ _ h => h) (Or.inr ⟨by rfl, rfl⟩) ?_
                      simp only [List.getElem_toArray, List.getElem_cons_zero, List.getElem_cons_succ, Act.put, List.setIfInBounds_toArray, List.set_cons_zero, List.set_cons_succ]
                      refine wpAny_take (i := 30) (v := undef) rfl (by kernel_rfl) (by kernel_rfl) (by kernel_rfl) (fun _ _ _ h => h) (Or.inr ⟨by rfl, rfl⟩) ?_
                      simp only [List.getElem_toArray, List.getElem_cons_zero, List.getElem_cons_succ, Act.put, List.setIfInBounds_toArray, List.set_cons_zero, List.set_cons_succ]
                      refine wpAny_take (i := 31) (v := undef) rfl (by kernel_rfl) (by kernel_rfl) (by kernel_rfl) (fun _ _ _ h => h) (Or.inr ⟨by rfl, rfl⟩) ?_
                      simp only [List.getElem_toArray, List.getElem_cons_zero, List.getElem_cons_succ, Act.put, List.setIfInBounds_toArray, List.set_cons_zero, List.set_cons_succ]
                      refine wpAny_take (i := 32) (v := undef) rfl (by kernel_rfl) (by kernel_rfl) (by kernel_rfl) (fun _ _ _ h => h) (Or.inr ⟨by rfl, rfl⟩) ?_
                      simp only [List.getElem_toArray, List.getElem_cons_zero, List.getElem_cons_succ, Act.put, List.setIfInBounds_toArray, List.set_cons_zero, List.set_cons_succ]
                      refine wpAny_take (i := 33) (v := undef) rfl (by kernel_rfl) (by kernel_rfl) (by kernel_rfl) (fun _ _ _ h => h) (Or.inr ⟨by rfl, rfl⟩) ?_
                      simp only [List.getElem_toArray, List.getElem_cons_zero, List.getElem_cons_succ, Act.put, List.setIfInBounds_toArray, List.set_cons_zero, List.set_cons_succ]
                      refine wpAny_take (i := 34) (v := undef) rfl (by kernel_rfl) (by kernel_rfl) (by kernel_rfl) (fun _ _ _ h => h) (Or.inr ⟨by rfl, rfl⟩) ?_
                      simp only [List.getElem_toArray, List.getElem_cons_zero, List.getElem_cons_succ, Act.put, List.setIfInBounds_toArray, List.set_cons_zero, List.set_cons_succ]
                      refine wpAny_take (i := 35) (v := undef) rfl (by kernel_rfl) (by kernel_rfl) (by kernel_rfl) (fun _ _ _ h => h) (Or.inr ⟨by rfl, rfl⟩) ?_
                      simp only [List.getElem_toArray, List.getElem_cons_zero, List.getElem_cons_succ, Act.put, List.setIfInBounds_toArray, List.set_cons_zero, List.set_cons_succ]
                      refine wpAny_take (i := 36) (v := undef) rfl (by kernel_rfl) (by kernel_rfl) (by kernel_rfl) (fun _ _ _ h => h) (Or.inr ⟨by rfl, rfl⟩) ?_
                      simp only [List.getElem_toArray, List.getElem_cons_zero, List.getElem_cons_succ, Act.put, List.setIfInBounds_toArray, List.set_cons_zero, List.set_cons_succ]
                      refine wpAny_take (i := 37) (v := undef) rfl (by kernel_rfl) (by kernel_rfl) (by kernel_rfl) (fun _ _ _ h => h) (Or.inr ⟨by rfl, rfl⟩) ?_
                      simp only [List.getElem_toArray, List.getElem_cons_zero, List.getElem_cons_succ, Act.put, List.setIfInBounds_toArray, List.set_cons_zero, List.set_cons_succ]
                      refine wpAny_take (i := 38) (v := ?_) rfl (by kernel_rfl) (by kernel_rfl) (by kernel_rfl) (fun _ _ _ h => h) (Or.inl ⟨by rfl, ?_⟩) ?_
                      rotate_left
                      · intro w; go_simp
                        try with_reducible rfl
                      simp only [List.getElem_toArray, List.getElem_cons_zero, List.getElem_cons_succ, Act.put, List.setIfInBounds_toArray, List.set_cons_zero, List.set_cons_succ]
                      refine wpAny_done (by kernel_rfl) ?_ _
                      all_goals
                        go_wp2_with fail
                        go_meet
                        exact ⟨rfl, HS6.out⟩
                    case rest =>
                      obtain ⟨rfl, hst⟩ := hcut
                      have HST := Lib.hid hst
                      clear hst
                      go_wp2_with fail
                      go_ret
                      rw [R.out]
                      exact ⟨rfl, HST.out⟩
                · have R : Hid (r = none) := Lib.hid (by rw [R0.out, if_neg (by rintro ⟨_, h, _, _⟩; exact h13 h)])
                  have H13 := Lib.hid (fun W (hW : St w0 W g (some ⟨p, o, none⟩) n c ((t + j + 1 : Nat) : Int) (.slice none 0 0) []) => is_false 13 hW HBY.out HN.out hn5 hpg h13)
                  rw [show ((13 : UInt8).toNat : Int) = 13 from rfl] at H13
                  clear h13 hv R0
                  go_cut [97] (fun s97 wx => s97 = .bool true ∧ Below g w0 wx)
                  case first =>
                    refine wp_region_any (by kernel_rfl) ?_
                    change wpAny _ _ _ _ _ _ _ (World.drew _)
                    refine wpAny_take (i := 0) (v := ?_) rfl (by kernel_rfl) (by kernel_rfl) (by kernel_rfl) (fun _ _ _ h => h) (Or.inl ⟨by rfl, ?_⟩) ?_
                    rotate_left
                    · intro w; go_simp
                      try with_reducible rfl
                    simp only [List.getElem_toArray, List.getElem_cons_zero, Act.put, List.setIfInBounds_toArray, List.set_cons_zero, List.set_cons_succ]
                    refine wpAny_take (i := 1) (v := ?_) rfl (by kernel_rfl) (by kernel_rfl) (by kernel_rfl) (fun _ _ _ h => h) (Or.inl ⟨by rfl, ?_⟩) ?_
                    rotate_left
                    · intro w; go_simp
                      try with_reducible rfl
                    simp only [List.getElem_toArray, List.getElem_cons_zero, List.getElem_cons_succ, Act.put, List.setIfInBounds_toArray, List.set_cons_zero, List.set_cons_succ]
                    refine wpAny_take (i := 2) (v := ?_) rfl (by kernel_rfl) (by kernel_rfl) (by kernel_rfl) (fun _ _ _ h => h) (Or.inl ⟨by rfl, ?_⟩) ?_
                    rotate_left
                    · intro w; go_simp
                      try with_reducible rfl
                    simp only [List.getElem_toArray, List.getElem_cons_zero, List.getElem_cons_succ, Act.put, List.setIfInBounds_toArray, List.set_cons_zero, List.set_cons_succ]
                    refine wpAny_take (i := 3) (v := ?_) rfl (by kernel_rfl) (by kernel_rfl) (by kernel_rfl) (fun _ _ _ h => h) (Or.inl ⟨by rfl, ?_⟩) ?_
                    rotate_left
                    · intro w; go_simp
                      try with_reducible rfl
                    simp only [List.getElem_toArray, List.getElem_cons_zero, List.getElem_cons_succ, Act.put, List.setIfInBounds_toArray, List.set_cons_zero, List.set_cons_succ]
                    refine wpAny_take (i := 4) (v := ?_) rfl (by kernel_rfl) (by kernel_rfl) (by kernel_rfl) (fun _ _ _ h => h) (Or.inl ⟨by rfl, ?_⟩) ?_
                    rotate_left
                    · intro w; go_simp
                      try with_reducible rfl
                    simp only [List.getElem_toArray, List.getElem_cons_zero, List.getElem_cons_succ, Act.put, List.setIfInBounds_toArray, List.set_cons_zero, List.set_cons_succ]
                    refine wpAny_take (i := 5) (v := ?_) rfl (by kernel_rfl) (by kernel_rfl) (by kernel_rfl) (fun _ _ _ h => h) (Or.inl ⟨by rfl, ?_⟩) ?_
                    rotate_left
                    · intro w; go_simp
                      try with_reducible rfl
                    simp only [List.getElem_toArray, List.getElem_cons_zero, List.getElem_cons_succ, Act.put, List.setIfInBounds_toArray, List.set_cons_zero, List.set_cons_succ]
                    refine wpAny_take (i := 6) (v := ?_) rfl (by kernel_rfl) (by kernel_rfl) (by kernel_rfl) (fun _ _ _ h => h) (Or.inl ⟨by rfl, ?_⟩) ?_
                    rotate_left
                    · intro w; go_simp
                      try with_reducible rfl
                    simp only [List.getElem_toArray, List.getElem_cons_zero, List.getElem_cons_succ, Act.put, List.setIfInBounds_toArray, List.set_cons_zero, List.set_cons_succ]
                    refine wpAny_take (i := 10) (v := ?_) rfl (by kernel_rfl) (by kernel_rfl) (by kernel_rfl) (fun _ _ _ h => h) (Or.inl ⟨by rfl, ?_⟩) ?_
                    rotate_left
                    · intro w; go_simp
                      try with_reducible rfl
                    simp only [List.getElem_toArray, List.getElem_cons_zero, List.getElem_cons_succ, Act.put, List.setIfInBounds_toArray, List.set_cons_zero, List.set_cons_succ]
                    refine wpAny_take (i := 7) (v := ?_) rfl (by kernel_rfl) (by kernel_rfl) (by kernel_rfl) (fun _ _ _ h => h) (Or.inl ⟨by rfl, ?_⟩) ?_
                    rotate_left
                    · intro w; go_simp
                      try with_reducible rfl
                    simp only [List.getElem_toArray, List.getElem_cons_zero, List.getElem_cons_succ, Act.put, List.setIfInBounds_toArray, List.set_cons_zero, List.set_cons_succ]
                    refine wpAny_take (i := 8) (v := ?_) rfl (by kernel_rfl) (by kernel_rfl) (by kernel_rfl) (fun _ _ _ h => h) (Or.inl ⟨by rfl, ?_⟩) ?_
                    rotate_left
                    · intro w; go_simp
                      try with_reducible rfl
                    simp only [List.getElem_toArray, List.getElem_cons_zero, List.getElem_cons_succ, Act.put, List.setIfInBounds_toArray, List.set_cons_zero, List.set_cons_succ]
                    refine wpAny_take (i := 9) (v := ?_) rfl (by kernel_rfl) (by kernel_rfl) (by kernel_rfl) (fun _ _ _ h => h) (Or.inl ⟨by rfl, ?_⟩) ?_
                    rotate_left
                    · intro w; go_simp
                      try with_reducible rfl
                    simp only [List.getElem_toArray, List.getElem_cons_zero, List.getElem_cons_succ, Act.put, List.setIfInBounds_toArray, List.set_cons_zero, List.set_cons_succ]
                    refine wpAny_ready (rs := [11]) (by kernel_rfl) (by simp) ?_
                    refine AllReady.cons rfl (fun K hK => ?_) AllReady.nil
                    go_simp
                    go_wp2_with (go_at_call 44; refine (H13.out _ ?_).mono ?_; exact HS3.out.drewN 1; rintro e w5 ⟨rfl, hs5⟩; have HS5 := Lib.hid hs5; clear hs5)
                    refine wpAny_take (i := 12) (v := ?_) rfl (by kernel_rfl) (by kernel_rfl) (by kernel_rfl) (fun _ _ _ h => h) (Or.inl ⟨by rfl, ?_⟩) ?_
                    rotate_left
                    · intro w; go_simp
                      try with_reducible rfl
                    simp only [List.getElem_toArray, List.getElem_cons_zero, List.getElem_cons_succ, Act.put, List.setIfInBounds_toArray, List.set_cons_zero, List.set_cons_succ]
                    refine wpAny_take (i := 13) (v := ?_) rfl (by kernel_rfl) (by kernel_rfl) (by kernel_rfl) (fun _ _ _ h => h) (Or.inl ⟨by rfl, ?_⟩) ?_
                    rotate_left
                    · intro w; go_simp
                      try with_reducible rfl
                    simp only [List.getElem_toArray, List.getElem_cons_zero, List.getElem_cons_succ, Act.put, List.setIfInBounds_toArray, List.set_cons_zero, List.set_cons_succ]
                    refine wpAny_take (i := 14) (v := ?_) rfl (by kernel_rfl) (by kernel_rfl) (by kernel_rfl) (fun _ _ _ h => h) (Or.inl ⟨by rfl, ?_⟩) ?_
                    rotate_left
                    · intro w; go_simp
                      try with_reducible rfl
                    simp only [List.getElem_toArray, List.getElem_cons_zero, List.getElem_cons_succ, Act.put, List.setIfInBounds_toArray, List.set_cons_zero, List.set_cons_succ]
                    refine wpAny_take (i := 15) (v := undef) rfl (by kernel_rfl) (by kernel_rfl) (by kernel_rfl) (fun _ _ _ h => h) (Or.inr ⟨by rfl, rfl⟩) ?_
                    simp only [List.getElem_toArray, List.getElem_cons_zero, List.getElem_cons_succ, Act.put, List.setIfInBounds_toArray, List.set_cons_zero, List.set_cons_succ]
                    refine wpAny_take (i := 16) (v := undef) rfl (by kernel_rfl) (by kernel_rfl) (by kernel_rfl) (fun _ _ _ h => h) (Or.inr ⟨by rfl, rfl⟩) ?_
                    simp only [List.getElem_toArray, List.getElem_cons_zero, List.getElem_cons_succ, Act.put, List.setIfInBounds_toArray, List.set_cons_zero, List.set_cons_succ]
                    refine wpAny_take (i := 17) (v := undef) rfl (by kernel_rfl) (by kernel_rfl) (by kernel_rfl) (fun _ _ _ h => h) (Or.inr ⟨by rfl, rfl⟩) ?_
                    simp only [List.getElem_toArray, List.getElem_cons_zero, List.getElem_cons_succ, Act.put, List.setIfInBounds_toArray, List.set_cons_zero, List.set_cons_succ]
                    refine wpAny_take (i := 18) (v := undef) rfl (by kernel_rfl) (by kernel_rfl) (by kernel_rfl) (fun _ _ _ h => h) (Or.inr ⟨by rfl, rfl⟩) ?_
                    simp only [List.getElem_toArray, List.getElem_cons_zero, List.getElem_cons_succ, Act.put, List.setIfInBounds_toArray, List.set_cons_zero, List.set_cons_succ]
                    refine wpAny_take (i := 19) (v := undef) rfl (by kernel_rfl) (by kernel_rfl) (by kernel_rfl) (fun _ _ _ h => h) (Or.inr ⟨by rfl, rfl⟩) ?_
                    simp only [List.getElem_toArray, List.getElem_cons_zero, List.getElem_cons_succ, Act.put, List.setIfInBounds_toArray, List.set_cons_zero, List.set_cons_succ]
                    refine wpAny_take (i := 20) (v := undef) rfl (by kernel_rfl) (by kernel_rfl) (by kernel_rfl) (fun _ _ _ h => h) (Or.inr ⟨by rfl, rfl⟩) ?_
                    simp only [List.getElem_toArray, List.getElem_cons_zero, List.getElem_cons_succ, Act.put, List.setIfInBounds_toArray, List.set_cons_zero, List.set_cons_succ]
                    refine wpAny_take (i := 21) (v := ?_) rfl (by kernel_rfl) (by kernel_rfl) (by kernel_rfl) (fun _ _ _ h => h) (Or.inl ⟨by rfl, ?_⟩) ?_
                    rotate_left
                    · intro w; go_simp
                      try with_reducible rfl
                    simp only [List.getElem_toArray, List.getElem_cons_zero, List.getElem_cons_succ, Act.put, List.setIfInBounds_toArray, List.set_cons_zero, List.set_cons_succ]
                    refine wpAny_take (i := 22) (v := ?_) rfl (by kernel_rfl) (by kernel_rfl) (by kernel_rfl) (fun _ _ _ h => h) (Or.inl ⟨by rfl, ?_⟩) ?_
                    rotate_left
                    · intro w; go_simp
                      try with_reducible rfl
                    simp only [List.getElem_toArray, List.getElem_cons_zero, List.getElem_cons_succ, Act.put, List.setIfInBounds_toArray, List.set_cons_zero, List.set_cons_succ]
                    refine wpAny_take (i := 23) (v := undef) rfl (by kernel_rfl) (by kernel_rfl) (by kernel_rfl) (fun _ _ _ h => h) (Or.inr ⟨by rfl, rfl⟩) ?_
                    simp only [List.getElem_toArray, List.getElem_cons_zero, List.getElem_cons_succ, Act.put, List.setIfInBounds_toArray, List.set_cons_zero, List.set_cons_succ]
                    refine wpAny_take (i := 24) (v := undef) rfl (by kernel_rfl) (by kernel_rfl) (by kernel_rfl) (fun _ _ _ h => h) (Or.inr ⟨by rfl, rfl⟩) ?_
                    simp only [List.getElem_toArray, List.getElem_cons_zero, List.getElem_cons_succ, Act.put, List.setIfInBounds_toArray, List.set_cons_zero, List.set_cons_succ]
                    refine wpAny_take (i := 25) (v := undef) rfl (by kernel_rfl) (by kernel_rfl) (by kernel_rfl) (fun _ _ _ h => h) (Or.inr ⟨by rfl, rfl⟩) ?_
                    simp only [List.getElem_toArray, List.getElem_cons_zero, List.getElem_cons_succ, Act.put, List.setIfInBounds_toArray, List.set_cons_zero, List.set_cons_succ]
                    refine wpAny_take (i := 26) (v := undef) rfl (by kernel_rfl) (by kernel_rfl) (by kernel_rfl) (fun _ _ _ h => h) (Or.inr ⟨by rfl, rfl⟩) ?_
                    simp only [List.getElem_toArray, List.getElem_cons_zero, List.getElem_cons_succ, Act.put, List.setIfInBounds_toArray, List.set_cons_zero, List.set_cons_succ]
                    refine wpAny_take (i := 27) (v := undef) rfl (by kernel_rfl) (by kernel_rfl) (by kernel_rfl) (fun _ _ _ h => h) (Or.inr ⟨by rfl, rfl⟩) ?_
                    simp only [List.getElem_toArray, List.getElem_cons_zero, List.getElem_cons_succ, Act.put, List.setIfInBounds_toArray, List.set_cons_zero, List.set_cons_succ]
                    refine wpAny_take (i := 28) (v := undef) rfl (by kernel_rfl) (by kernel_rfl) (by kernel_rfl) (fun _ _ _ h => h) (Or.inr ⟨by rfl, rfl⟩) ?_
                    simp only [List.getElem_toArray, List.getElem_cons_zero, List.getElem_cons_succ, Act.put, List.setIfInBounds_toArray, List.set_cons_zero, List.set_cons_succ]
                    refine wpAny_take (i := 29) (v := undef) rfl (by kernel_rfl) (by kernel_rfl) (by kernel_rfl) (fun _ _ _ h => h) (Or.inr ⟨by rfl, rfl⟩) ?_
                    simp only [List.getElem_toArray, List.getElem_cons_zero, List.getElem_cons_succ, Act.put, List.setIfInBounds_toArray, List.set_cons_zero, List.set_cons_succ]
                    refine wpAny_take (i := 30) (v := undef) rfl (by kernel_rfl) (by kernel_rfl) (by kernel_rfl) (fun _ _ _ h => h) (Or.inr ⟨by rfl, rfl⟩) ?_
                    simp only [List.getElem_toArray, List.getElem_cons_zero, List.getElem_cons_succ, Act.put, List.setIfInBounds_toArray, List.set_cons_zero, List.set_cons_succ]
                    refine wpAny_take (i := 31) (v := undef) rfl (by kernel_rfl) (by kernel_rfl) (by kernel_rfl) (fun _ _ _ h => h) (Or.inr ⟨by rfl, rfl⟩) ?_
                    simp only [List.getElem_toArray, List.getElem_cons_zero, List.getElem_cons_succ, Act.put, List.setIfInBounds_toArray, List.set_cons_zero, List.set_cons_succ]
                    refine wpAny_take (i := 32) (v := undef) rfl (by kernel_rfl) (by kernel_rfl) (by kernel_rfl) (fun _ _ _ h => h) (Or.inr ⟨by rfl, rfl⟩) ?_
                    simp only [List.getElem_toArray, List.getElem_cons_zero, List.getElem_cons_succ, Act.put, List.setIfInBounds_toArray, List.set_cons_zero, List.set_cons_succ]
                    refine wpAny_take (i := 33) (v := undef) rfl (by kernel_rfl) (by kernel_rfl) (by kernel_rfl) (fun _ _ _ h => h) (Or.inr ⟨by rfl, rfl⟩) ?_
                    simp only [List.getElem_toArray, List.getElem_cons_zero, List.getElem_cons_succ, Act.put, List.setIfInBounds_toArray, List.set_cons_zero, List.set_cons_succ]
                    refine wpAny_take (i := 34) (v := undef) rfl (by kernel_rfl) (by kernel_rfl) (by kernel_rfl) (fun _ _ _ h => h) (Or.inr ⟨by rfl, rfl⟩) ?_
                    simp only [List.getElem_toArray, List.getElem_cons_zero, List.getElem_cons_succ, Act.put, List.setIfInBounds_toArray, List.set_cons_zero, List.set_cons_succ]
                    refine wpAny_take (i := 35) (v := undef) rfl (by kernel_rfl) (by kernel_rfl) (by kernel_rfl) (fun _ _ _ h => h) (Or.inr ⟨by rfl, rfl⟩) ?_
                    simp only [List.getElem_toArray, List.getElem_cons_zero, List.getElem_cons_succ, Act.put, List.setIfInBounds_toArray, List.set_cons_zero, List.set_cons_succ]
                    refine wpAny_take (i := 36) (v := undef) rfl (by kernel_rfl) (by kernel_rfl) (by kernel_rfl) (fun _ _ _ h => h) (Or.inr ⟨by rfl, rfl⟩) ?_
                    simp only [List.getElem_toArray, List.getElem_cons_zero, List.getElem_cons_succ, Act.put, List.setIfInBounds_toArray, List.set_cons_zero, List.set_cons_succ]
                    refine wpAny_take (i := 37) (v := undef) rfl (by kernel_rfl) (by kernel_rfl) (by kernel_rfl) (fun _ _ _ h => h) (Or.inr ⟨by rfl, rfl⟩) ?_
                    simp only [List.getElem_toArray, List.getElem_cons_zero, List.getElem_cons_succ, Act.put, List.setIfInBounds_toArray, List.set_cons_zero, List.set_cons_succ]
                    refine wpAny_take (i := 38) (v := ?_) rfl (by kernel_rfl) (by kernel_rfl) (by kernel_rfl) (fun _ _ _ h => h) (Or.inl ⟨by rfl, ?_⟩) ?_
                    rotate_left
                    · intro w; go_simp
                      try with_reducible rfl
                    simp only [List.getElem_toArray, List.getElem_cons_zero, List.getElem_cons_succ, Act.put, List.setIfInBounds_toArray, List.set_cons_zero, List.set_cons_succ]
                    refine wpAny_done (by kernel_rfl) ?_ _
                    all_goals
                      go_wp2_with fail
                      go_meet
                      exact ⟨rfl, HS5.out⟩
                  case rest =>
                    obtain ⟨rfl, hst⟩ := hcut
                    have HST := Lib.hid hst
                    clear hst
                    go_wp2_with fail
                    go_ret
                    rw [R.out]
                    exact ⟨rfl, HST.out⟩
              · have R : Hid (r = none) := Lib.hid (by rw [R0.out, if_neg (fun h => hv h.1)])
                have hv2 : decide (65536 < (v : Int)) = true := decide_eq_true (by omega)
                have hv3 : decide (65536 < v) = true := decide_eq_true (by omega)
                clear hv
                go_quiet (fail)
                go_wp2_with fail
                go_ret
                rw [R.out]
                exact ⟨rfl, YthoccgkkgnlbpaaDoor.Below.many HS3.out.2.2 nq⟩
    · rw [scanL_bad l k hk e123]
      have HI := Lib.hid (is_st (v := 123) (b := false) h hk hl (hcw w h.2.2 k hk) hpg (by
        have := u8_ne (v := 123) (by decide) e123
        exact this))
      clear hcw hc hb h ha e123 HCW HBY hS hlc
      go_enter Tryd.func38, Tryd.ntmps38
      go_wp2_with fail
      refine HI.out.mono ?_
      rintro e w1 ⟨rfl, hs⟩
      have HB := Lib.hid hs.2.2
      clear hs
      go_wp2_with fail
      go_ret
      exact ⟨rfl, HB.out⟩
end Go.Proofs.YthoccgkkgnlbpaaDoor
