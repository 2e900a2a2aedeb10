/- The walk of the scanner's method quoted. · The walks of scan and ScanQuoted, and of the reference's ScanQuoted. · How long the bytes are that are read; the parts of what a reader of forms hands back. · Plain laws on tokens: how far each reaches, and what a list of them adds up to. · The walks of the reader's methods sign, space, open, close. -/
import Derived.Test.YtkifhgnoadmfkaaDoorJ4
import Derived.Test.YtkifhgnoadmfkaaDoorJ3
import Derived.OwnWalk
set_option linter.unusedVariables false
set_option linter.unusedSimpArgs false
namespace Go.Proofs.YtkifhgnoadmfkaaDoor
open Go.RowKit

abbrev SqAt (l m : List UInt8) (k : Nat) (o : Option (List UInt8 × Nat)) : Prop := o = (sq (l.drop k)).map fun x => (m ++ x.1, k + x.2)
section
variable {l m : List UInt8} {k : Nat} {o : Option (List UInt8 × Nat)}
theorem SqAt.out (h : SqAt l m k o) (hk : l.length ≤ k) : o = none := by
  rw [h, List.drop_of_length_le hk]; rfl
theorem SqAt.mark (h : SqAt l m k o) (hk : k < l.length) (e : l[k] = 34) : o = some (m, k + 1) := by
  rw [h, List.drop_eq_getElem_cons hk, e]; unfold sq; simp
theorem SqAt.escOut (h : SqAt l m k o) (hk : k < l.length) (e : l[k] = 92) (h1 : l.length ≤ k + 1) : o = none := by
  rw [h, List.drop_eq_getElem_cons hk, e, List.drop_of_length_le h1]; rfl
theorem SqAt.escBad (h : SqAt l m k o) (hk : k < l.length) (e : l[k] = 92) (h1 : k + 1 < l.length) (hd : ¬ (l[k + 1] = 34 ∨ l[k + 1] = 92)) : o = none := by
  rw [h, List.drop_eq_getElem_cons hk, e, List.drop_eq_getElem_cons h1]
  generalize l[k + 1] = d at hd
  unfold sq
  simp only [show ¬ ((92 : UInt8) = 34) by decide, if_false, if_true, if_neg hd]
  rfl
theorem SqAt.esc (h : SqAt l m k o) (hk : k < l.length) (e : l[k] = 92) (h1 : k + 1 < l.length) (hd : l[k + 1] = 34 ∨ l[k + 1] = 92) : SqAt l (m ++ [l[k + 1]]) (k + 2) o := by
  unfold SqAt
  rw [h, List.drop_eq_getElem_cons hk, e, List.drop_eq_getElem_cons h1]
  generalize l[k + 1] = d at hd
  conv => lhs; unfold sq
  simp only [show ¬ ((92 : UInt8) = 34) by decide, if_false, if_true, if_pos hd]
  unfold consQ
  rw [Option.map_map, show k + 1 + 1 = k + 2 from rfl]
  congr 1
  funext x
  simp [Nat.add_assoc, Nat.add_comm 2]
theorem SqAt.bad (h : SqAt l m k o) (hk : k < l.length) (e1 : l[k] ≠ 34) (e2 : l[k] ≠ 92) (ht : textB (l[k].toNat : Int) = false) : o = none := by
  rw [h, List.drop_eq_getElem_cons hk]
  generalize l[k] = d at *
  unfold sq
  rw [if_neg e1, if_neg e2, if_neg (by rw [ht]; simp)]; rfl
theorem SqAt.next (h : SqAt l m k o) (hk : k < l.length) (e1 : l[k] ≠ 34) (e2 : l[k] ≠ 92) (ht : textB (l[k].toNat : Int) = true) : SqAt l (m ++ [l[k]]) (k + 1) o := by
  unfold SqAt
  rw [h, List.drop_eq_getElem_cons hk]
  generalize l[k] = d at *
  conv => lhs; unfold sq
  rw [if_neg e1, if_neg e2, if_pos ht]
  unfold consQ
  rw [Option.map_map]
  congr 1
  funext x
  simp [Nat.add_assoc, Nat.add_comm 1]
end
theorem scanQ_no (l : List UInt8) (a : Int) (h : a < 0 ∨ (l.length : Int) ≤ a) : scanQ l a = none := by
  unfold scanQ; rw [if_neg (by omega)]
theorem scanQ_bad (l : List UInt8) (k : Nat) (hk : k < l.length) (h : l[k] ≠ 34) : scanQ l k = none := by
  unfold scanQ
  rw [if_neg]
  rintro ⟨_, _, e⟩
  rw [Int.toNat_natCast, List.getElem?_eq_getElem hk] at e
  exact h (by injection e)
theorem scanQ_at (l : List UInt8) (k : Nat) (hk : k < l.length) (h : l[k] = 34) : SqAt l [] (k + 1) (scanQ l k) := by
  unfold scanQ
  rw [if_pos ⟨by omega, by omega, by rw [Int.toNat_natCast, List.getElem?_eq_getElem hk, h]⟩, Int.toNat_natCast]
  rfl
set_option maxRecDepth 100000 in
set_option maxHeartbeats 3200000 in
theorem sQuoted_any (w0 : World) (g : Nat) (P : Option Addr) (l : List UInt8) (c : Nat) (a : Int) (w : World) (h : St w0 w g P l.length c a (.slice none 0 0) []) (hb : Bys w0 g P l) (hl : l.length ≤ 1048576) :
    Calls Tryd.prog 73 #[.pointer (some ⟨g, 0, none⟩)] w (ScanPost w0 g P l.length c (scanQ l a)) := by
  by_cases ha : a < 0 ∨ (l.length : Int) ≤ a
  · rw [scanQ_no l a ha]
    have HI := Lib.hid (is_no g P l.length c a 34 _ w h.1 ha)
    have HB := Lib.hid h.2.2
    clear h hb ha hl
    go_enter Tryd.func73, Tryd.ntmps73
    go_wp2_with fail
    refine HI.out.mono ?_
    rintro e w1 ⟨rfl, i, rfl⟩
    go_wp2_with fail
    go_ret
    exact ⟨rfl, YtkifhgnoadmfkaaDoor.Below.many HB.out i⟩
  · obtain ⟨k, rfl⟩ := Int.eq_ofNat_of_zero_le (show 0 ≤ a by omega)
    have hk : k < l.length := by omega
    obtain ⟨p, o, rfl, hp, hc⟩ := hb (by omega)
    have hcw : ∀ w', Below g w0 w' → ∀ i (hi : i < l.length), w'.cell? ⟨p, o + i, none⟩ = some (.int .u8 (l[i].toNat : Int)) := fun w' hw i hi => by rw [hw.cell (p := ⟨p, o + i, none⟩) hp]; exact hc i hi
    have HCW := Lib.hid hcw
    have hpg : p ≠ g := by omega
    by_cases e34 : l[k] = 34
    · have HI := Lib.hid (is_yes g p o l.length c k _ 34 true _ w h.1 hk hl (hcw w h.2.2 k hk) hpg (by rw [e34]; rfl))
      have HO := Lib.hid (scanQ_at l k hk e34)
      generalize scanQ l k = r at HO ⊢
      have HS := Lib.hid h
      clear hcw hc hb h ha e34
      have HL := Lib.hid (show True from trivial)
      go_enter Tryd.func73, Tryd.ntmps73
      go_wp2_with fail
      refine HI.out.mono ?_
      rintro e w1 ⟨rfl, i, hi⟩
      have h1 := HS.out.take hi
      rw [show ((k : Int) + 1) = ((k + 1 : Nat) : Int) by omega] at h1
      clear hi HI HS
      go_wp2_with fail
      go_loopw [3] (fun _ wr => ∃ (j : Nat) (m : List UInt8) (out : Value), j ≤ l.length ∧ m.length ≤ j ∧ St w0 wr g (some ⟨p, o, none⟩) l.length c (j : Int) out m ∧ SqAt l m j r) (fun _ wr => l.length - curAt wr g)
      case atStart => exact ⟨k + 1, [], _, by omega, by simp, h1, HO.out⟩
      case round =>
        obtain ⟨j, m, out, hj, hm, hst, hsq⟩ := hrel
        have HSTJ := Lib.hid hst
        have HSQJ := Lib.hid hsq
        have CUR := Lib.hid hst.cur
        clear hsq
        by_cases hjl : j < l.length
        · have HT := Lib.hid (take_yes g p o l.length c j _ out wr hst.1 hjl hl (HCW.out wr hst.2.2 j hjl) hpg)
          clear hst h1
          obtain ⟨x, hx⟩ : ∃ x, l[j] = x := ⟨_, rfl⟩
          have HX := Lib.hid hx
          rw [hx] at HT
          have hu := x.toNat_lt
          clear hx
          by_cases q34 : x = 34
          · have R := Lib.hid (HSQJ.out.mark hjl (by rw [HX.out, q34]))
            have e1 : (x.toNat : Int) = 34 := by rw [q34]; rfl
            rw [e1] at HT
            clear e1 q34 hu
            go_wp2_with fail
            refine HT.out.mono ?_
            rintro e w2 ⟨rfl, i, hi⟩
            have st2 := Lib.hid (HSTJ.out.take hi)
            clear hi
            go_wp2_with fail
            go_ret
            rw [R.out]
            exact ⟨rfl, _, st2.out⟩
          · have e1 := u8_ne (v := 34) (by decide) q34
            have e1' : ((x.toNat : Int) == 34) = false := e1
            clear e1
            by_cases q92 : x = 92
            · by_cases hj1 : j + 1 < l.length
              · obtain ⟨d, hd⟩ : ∃ d, l[j + 1] = d := ⟨_, rfl⟩
                have HD := Lib.hid hd
                clear hd
                have e2 : (x.toNat : Int) = 92 := by rw [q92]; rfl
                rw [e2] at HT
                have hdu := d.toNat_lt
                clear e1' e2 hu
                by_cases hdd : d = 34 ∨ d = 92
                · have HSQ0 := HSQJ.out.esc hjl (by rw [HX.out, q92]) hj1 (by rw [HD.out]; exact hdd)
                  rw [HD.out] at HSQ0
                  have HSQ := Lib.hid HSQ0
                  have htx : textB (d.toNat : Int) = true := by rcases hdd with rfl | rfl <;> decide
                  clear HSQ0 q92 q34
                  have hdv : (((d.toNat : Int) != 34) = false ∧ (d.toNat : Int) = 34) ∨ (((d.toNat : Int) != 34) = true ∧ ((d.toNat : Int) != 92) = false) := by rcases hdd with rfl | rfl <;> decide
                  clear hdd
                  rcases hdv with ⟨b1, -⟩ | ⟨b1, b2⟩
                  all_goals
                    go_wp2_with fail
                    refine HT.out.mono ?_
                    rintro e w2 ⟨rfl, i, hi⟩
                    have st2 := HSTJ.out.take hi
                    rw [show ((j : Int) + 1) = ((j + 1 : Nat) : Int) by omega] at st2
                    have HT2 := Lib.hid (take_yes g p o l.length c (j + 1) _ out w2 st2.1 hj1 hl (HCW.out w2 st2.2.2 (j + 1) hj1) hpg)
                    rw [HD.out] at HT2
                    have ST2 := Lib.hid st2
                    clear hi st2
                    go_wp2_with fail
                    refine HT2.out.mono ?_
                    rintro e w3 ⟨rfl, i2, hi2⟩
                    have st3 := ST2.out.take hi2
                    rw [show (((j + 1 : Nat) : Int) + 1) = ((j + 2 : Nat) : Int) by omega] at st3
                    have ST3 := Lib.hid st3
                    have HTX := Lib.hid (text_val (d.toNat : Int) true w3 htx (by omega) (by omega))
                    clear hi2
                    go_wp2_with fail
                    refine HTX.out.mono ?_
                    rintro e w3' ⟨rfl, rfl⟩
                    have c2 : w3'.cell? ⟨g, 2, none⟩ = some out := by rw [st3.1.cell]; rfl
                    obtain ⟨v4, w4, hrun, hst4, hfz, hcell⟩ := st3.app d (by omega)
                    obtain ⟨p4, n4, c4, rfl⟩ := hst4.shape
                    have HR := Lib.hid hrun
                    have HST := Lib.hid hst4
                    clear hrun hst4 st3
                    go_wp2_with (at_builtin; refine wpList_append_run _ rfl (.tmp 50) (.tmp 52) _ _ rfl _ _ rfl rfl _ _ HR.out ?_)
                    go_roundw
                    case rel => exact ⟨(j + 2), m ++ [d], _, by omega, by rw [List.length_append]; show m.length + 1 ≤ _; omega, HST.out, HSQ.out⟩
                    case measure => rw [CUR.out, St.cur (k := (j + 2)) HST.out]; omega
                · have R := Lib.hid (HSQJ.out.escBad hjl (by rw [HX.out, q92]) hj1 (by rw [HD.out]; exact hdd))
                  have b1 : ((d.toNat : Int) != 34) = true := by
                    have := u8_ne (v := 34) (by decide) (fun e => hdd (.inl e))
                    simpa [bne] using this
                  have b2 : ((d.toNat : Int) != 92) = true := by
                    have := u8_ne (v := 92) (by decide) (fun e => hdd (.inr e))
                    simpa [bne] using this
                  clear q92 q34 hdd
                  go_wp2_with fail
                  refine HT.out.mono ?_
                  rintro e w2 ⟨rfl, i, hi⟩
                  have st2 := HSTJ.out.take hi
                  rw [show ((j : Int) + 1) = ((j + 1 : Nat) : Int) by omega] at st2
                  have HT2 := Lib.hid (take_yes g p o l.length c (j + 1) _ out w2 st2.1 hj1 hl (HCW.out w2 st2.2.2 (j + 1) hj1) hpg)
                  rw [HD.out] at HT2
                  have ST2 := Lib.hid st2
                  clear hi st2
                  go_wp2_with fail
                  refine HT2.out.mono ?_
                  rintro e w3 ⟨rfl, i2, hi2⟩
                  have ST3 := Lib.hid (ST2.out.take hi2)
                  clear hi2
                  go_wp2_with fail
                  go_ret
                  rw [R.out]
                  exact ⟨rfl, ST3.out.2.2⟩
              · have R := Lib.hid (HSQJ.out.escOut hjl (by rw [HX.out, q92]) (by omega))
                have e2 : (x.toNat : Int) = 92 := by rw [q92]; rfl
                rw [e2] at HT
                clear e1' e2 hu q92 q34
                go_wp2_with fail
                refine HT.out.mono ?_
                rintro e w2 ⟨rfl, i, hi⟩
                have st2 := HSTJ.out.take hi
                have HT2 := Lib.hid (take_no g _ l.length c _ out w2 st2.1 (.inr (by omega)))
                have ST2 := Lib.hid st2
                clear hi st2
                go_wp2_with fail
                refine HT2.out.mono ?_
                rintro e w3 ⟨rfl, i2, rfl⟩
                go_wp2_with fail
                go_ret
                rw [R.out]
                exact ⟨rfl, YtkifhgnoadmfkaaDoor.Below.many ST2.out.2.2 i2⟩
            · have e2 : ((x.toNat : Int) == 92) = false := u8_ne (v := 92) (by decide) q92
              cases htx : textB (x.toNat : Int) with
              | false =>
                have R := Lib.hid (HSQJ.out.bad hjl (by rw [HX.out]; exact q34) (by rw [HX.out]; exact q92) (by rw [HX.out]; exact htx))
                clear q92 q34
                go_wp2_with fail
                refine HT.out.mono ?_
                rintro e w2 ⟨rfl, i, hi⟩
                have st2 := HSTJ.out.take hi
                have ST2 := Lib.hid st2
                have HTX := Lib.hid (text_val (x.toNat : Int) false w2 htx (by omega) (by omega))
                clear hi st2
                go_wp2_with fail
                refine HTX.out.mono ?_
                rintro e w3 ⟨rfl, rfl⟩
                go_wp2_with fail
                go_ret
                rw [R.out]
                exact ⟨rfl, ST2.out.2.2⟩
              | true =>
                have HSQ0 := HSQJ.out.next hjl (by rw [HX.out]; exact q34) (by rw [HX.out]; exact q92) (by rw [HX.out]; exact htx)
                rw [HX.out] at HSQ0
                have HSQ := Lib.hid HSQ0
                clear HSQ0 q92 q34
                go_wp2_with fail
                refine HT.out.mono ?_
                rintro e w3 ⟨rfl, i, hi⟩
                have st3 := HSTJ.out.take hi
                rw [show ((j : Int) + 1) = ((j + 1 : Nat) : Int) by omega] at st3
                have HTX := Lib.hid (text_val (x.toNat : Int) true w3 htx (by omega) (by omega))
                clear hi
                have ST3 := Lib.hid st3
                go_wp2_with fail
                refine HTX.out.mono ?_
                rintro e w3' ⟨rfl, rfl⟩
                have c2 : w3'.cell? ⟨g, 2, none⟩ = some out := by rw [st3.1.cell]; rfl
                obtain ⟨v4, w4, hrun, hst4, hfz, hcell⟩ := st3.app x (by omega)
                obtain ⟨p4, n4, c4, rfl⟩ := hst4.shape
                have HR := Lib.hid hrun
                have HST := Lib.hid hst4
                clear hrun hst4 st3
                go_wp2_with (at_builtin; refine wpList_append_run _ rfl (.tmp 50) (.tmp 52) _ _ rfl _ _ rfl rfl _ _ HR.out ?_)
                go_roundw
                case rel => exact ⟨(j + 1), m ++ [x], _, by omega, by rw [List.length_append]; show m.length + 1 ≤ _; omega, HST.out, HSQ.out⟩
                case measure => rw [CUR.out, St.cur (k := (j + 1)) HST.out]; omega
        · have R := Lib.hid (HSQJ.out.out (by omega))
          have HT := Lib.hid (take_no g _ l.length c _ out wr hst.1 (.inr (by omega)))
          have ST2 := Lib.hid hst
          clear hst h1
          go_wp2_with fail
          refine HT.out.mono ?_
          rintro e w3 ⟨rfl, i2, rfl⟩
          go_wp2_with fail
          go_ret
          rw [R.out]
          exact ⟨rfl, YtkifhgnoadmfkaaDoor.Below.many ST2.out.2.2 i2⟩
    · rw [scanQ_bad l k hk e34]
      have HI := Lib.hid (is_yes g p o l.length c k _ 34 false _ w h.1 hk hl (hcw w h.2.2 k hk) hpg (u8_ne (v := 34) (by decide) e34))
      have HS := Lib.hid h
      clear hcw hc hb h ha e34
      go_enter Tryd.func73, Tryd.ntmps73
      go_wp2_with fail
      refine HI.out.mono ?_
      rintro e w1 ⟨rfl, i, hi⟩
      have h1 := Lib.hid (HS.out.take hi)
      clear hi
      go_wp2_with fail
      go_ret
      exact ⟨rfl, h1.out.2.2⟩
end Go.Proofs.YtkifhgnoadmfkaaDoor
namespace Go.Proofs.YtkifhgnoadmfkaaDoor
open Go.RowKit

/-- What a reader of forms hands back. -/
def RetS (W : World) (o : Option (List UInt8 × Nat)) (e : Ending) (w' : World) : Prop :=
  ∃ v, e = .returned (.tuple #[v, .int .i64 (((o.map (·.2)).getD 0 : Nat) : Int), .bool o.isSome]) ∧ Buf w' W.heap.size 1 v ((o.map (·.1)).getD []).length (Lib.byteCells ((o.map (·.1)).getD [])) ∧ Below W.heap.size W w'
theorem RetS.none {W w' : World} (h : Below W.heap.size W w') : RetS W none (.returned (.tuple #[.slice none 0 0, .int .i64 0, .bool false])) w' := ⟨_, rfl, Buf.nil _ _ _, h⟩
theorem RetS.some {W w' : World} {v : Value} {m : List UInt8} {j : Nat} (h : Buf w' W.heap.size 1 v m.length (Lib.byteCells m)) (hb : Below W.heap.size W w') : RetS W (some (m, j)) (.returned (.tuple #[v, .int .i64 (j : Int), .bool true])) w' := ⟨_, rfl, h, hb⟩

set_option maxRecDepth 100000 in
set_option maxHeartbeats 1600000 in
theorem scan_any (f : FuncId) (P : Option Addr) (l : List UInt8) (c : Nat) (a : Int) (w : World) (r : Option (List UInt8 × Nat)) (hf : ∀ args w, (callFunc f args).run Tryd.prog w = .ok (.enter f args) w)
    (H : ∀ w1, St w w1 w.heap.size P l.length c a (.slice none 0 0) [] → Calls Tryd.prog f #[.pointer (some ⟨w.heap.size, 0, none⟩)] w1 (ScanPost w w.heap.size P l.length c r)) :
    Calls Tryd.prog 72 #[.slice P l.length c, .int .i64 a, .func (.func f) #[] #[]] w (RetS w r) := by
  have hst : St w (w.alloc (.cells #[.slice P l.length c, .int .i64 a, .slice none 0 0] 130)) w.heap.size P l.length c a (.slice none 0 0) [] :=
    ⟨Blk.made _ _ _, Buf.nil _ _ _, (Below.refl _ _).alloc (Nat.le_refl _) _⟩
  have HH := Lib.hid (H _ hst)
  clear H
  generalize l.length = n at *
  go_enter Tryd.func72, Tryd.ntmps72
  go_wp2_with fail
  refine HH.out.mono ?_
  rintro e w1 hp
  cases r with
  | none =>
    obtain ⟨rfl, hb⟩ := hp
    have HB := Lib.hid hb
    go_wp2_with fail
    go_ret3
    exact RetS.none HB.out
  | some x =>
    obtain ⟨m, j⟩ := x
    obtain ⟨rfl, out, hst1⟩ := hp
    have HS := Lib.hid hst1
    obtain ⟨p4, n4, c4, rfl⟩ := hst1.shape
    have c1 : w1.cell? ⟨w.heap.size, 1, none⟩ = some (.int .i64 j) := by rw [hst1.1.cell]; rfl
    have c2 : w1.cell? ⟨w.heap.size, 2, none⟩ = some (.slice p4 n4 c4) := by rw [hst1.1.cell]; rfl
    clear hst1
    obtain ⟨g, hg⟩ : ∃ g, w.heap.size = g := ⟨_, rfl⟩
    rw [hg] at c1 c2 HS ⊢
    have HG := Lib.hid hg
    clear hg HH hst
    go_wp2_with fail
    go_quiet (fail)
    go_wp2_with fail
    go_ret3
    refine RetS.some ((HS.out.2.1.mono (by have := HG.out; omega)).drewN nq) (YtkifhgnoadmfkaaDoor.Below.many ?_ nq)
    rw [HG.out]; exact HS.out.2.2

set_option maxRecDepth 100000 in
theorem scanQuoted_any (P : Option Addr) (l : List UInt8) (c : Nat) (a : Int) (w : World) (h : Bys w w.heap.size P l) (hl : l.length ≤ 1048576) :
    Calls Tryd.prog 61 #[.slice P l.length c, .int .i64 a] w (RetS w (scanQ l a)) := by
  have H := Lib.hid (scan_any 73 P l c a w (scanQ l a) (fun _ _ => rfl) (fun w1 hst => sQuoted_any w w.heap.size P l c a w1 hst h hl))
  generalize scanQ l a = r at H ⊢
  generalize l.length = n at *
  clear h hl
  go_enter Tryd.func61, Tryd.ntmps61
  go_wp2_with fail
  refine H.out.mono ?_
  rintro e w1 hp
  have HP := Lib.hid hp
  obtain ⟨v, rfl, -, -⟩ := hp
  go_wp2_with fail
  go_ret3
  exact HP.out
end Go.Proofs.YtkifhgnoadmfkaaDoor
namespace Go.Proofs.YtkifhgnoadmfkaaDoor
open Go.RowKit

theorem sq_len : ∀ (n : Nat) (l : List UInt8), l.length ≤ n → ∀ x, sq l = some x → x.1.length ≤ l.length
  | _, [], _, x, h => by cases h
  | 0, c :: r, hn, x, h => by simp at hn
  | n + 1, c :: r, hn, x, h => by
    have hr : r.length ≤ n := by simpa using hn
    unfold sq at h
    split at h
    · injection h with h; subst h; simp
    · split at h
      · split at h
        · cases h
        · rename_i d r'
          split at h
          · unfold consQ at h
            rw [Option.map_eq_some_iff] at h
            obtain ⟨y, hy, rfl⟩ := h
            have := sq_len n r' (by simp at hr; omega) y hy
            simp only [List.length_cons]; omega
          · cases h
      · split at h
        · unfold consQ at h
          rw [Option.map_eq_some_iff] at h
          obtain ⟨y, hy, rfl⟩ := h
          have := sq_len n r hr y hy
          simp only [List.length_cons]; omega
        · cases h
def rdM (o : Option (List UInt8 × Nat)) : List UInt8 := (o.map (·.1)).getD []
def rdJ (o : Option (List UInt8 × Nat)) : Nat := (o.map (·.2)).getD 0
theorem scanQ_len (l : List UInt8) (a : Int) : (rdM (scanQ l a)).length ≤ l.length := by
  unfold scanQ
  split
  · cases h : sq (l.drop (a.toNat + 1)) with
    | none => simp [rdM]
    | some x =>
      have := sq_len _ _ (Nat.le_refl _) x h
      rw [List.length_drop] at this
      simp only [rdM, Option.map_some, Option.getD_some]
      omega
  · simp [rdM]
theorem scanL_len (l : List UInt8) (a : Int) : (rdM (scanL l a)).length ≤ l.length := by
  unfold scanL
  split
  · split
    · simp [rdM]
    · split
      · simp [rdM]
      · split
        · simp only [rdM, Option.map_some, Option.getD_some, List.length_take, List.length_drop]; omega
        · simp [rdM]
  · simp [rdM]
/-- RetS, its parts named. -/
theorem RetS.parts {W w' : World} {o : Option (List UInt8 × Nat)} {e : Ending} (h : RetS W o e w') : ∃ p c, e = .returned (.tuple #[.slice p (rdM o).length c, .int .i64 (rdJ o : Nat), .bool o.isSome]) ∧ Buf w' W.heap.size 1 (.slice p (rdM o).length c) (rdM o).length (Lib.byteCells (rdM o)) ∧ Bys w' w'.heap.size p (rdM o) ∧ Below W.heap.size W w' := by
  obtain ⟨v, rfl, hb, hw⟩ := h
  obtain ⟨p, c, rfl, _, hy⟩ := Buf.bys hb
  exact ⟨p, c, rfl, hb, hy, hw⟩
end Go.Proofs.YtkifhgnoadmfkaaDoor
namespace Go.Proofs.YtkifhgnoadmfkaaDoor
open Go.Lib

theorem sq_end : ∀ (n : Nat) (l : List UInt8), l.length ≤ n → ∀ x, sq l = some x → 1 ≤ x.2 ∧ x.2 ≤ l.length
  | _, [], _, x, h => by cases h
  | 0, c :: r, hn, x, h => by simp at hn
  | n + 1, c :: r, hn, x, h => by
    have hr : r.length ≤ n := by simpa using hn
    unfold sq at h
    split at h
    · injection h with h; subst h; simp
    · split at h
      · split at h
        · cases h
        · rename_i d r'
          split at h
          · unfold consQ at h
            rw [Option.map_eq_some_iff] at h
            obtain ⟨y, hy, rfl⟩ := h
            have := sq_end n r' (by simp at hr; omega) y hy
            simp only [List.length_cons]; omega
          · cases h
      · split at h
        · unfold consQ at h
          rw [Option.map_eq_some_iff] at h
          obtain ⟨y, hy, rfl⟩ := h
          have := sq_end n r hr y hy
          simp only [List.length_cons]; omega
        · cases h
theorem scanQ_end {l : List UInt8} {k : Nat} {x : List UInt8 × Nat} (h : scanQ l k = some x) : k < x.2 ∧ x.2 ≤ l.length := by
  unfold scanQ at h
  split at h
  · rename_i hc
    rw [Option.map_eq_some_iff] at h
    obtain ⟨y, hy, rfl⟩ := h
    have := sq_end _ _ (Nat.le_refl _) y hy
    rw [List.length_drop] at this
    simp only [Int.toNat_natCast] at *
    omega
  · cases h
theorem scanL_end {l : List UInt8} {k : Nat} {x : List UInt8 × Nat} (h : scanL l k = some x) : k < x.2 ∧ x.2 ≤ l.length := by
  unfold scanL at h
  split at h
  · split at h
    · cases h
    · split at h
      · cases h
      · split at h
        · injection h with h
          subst h
          simp only [Int.toNat_natCast] at *
          omega
        · cases h
  · cases h
theorem wd_len {l : List UInt8} {k : Nat} (hk : k < l.length) (hw : wordB l[k] = true) : 0 < ((l.drop k).takeWhile wordB).length ∧ k + ((l.drop k).takeWhile wordB).length ≤ l.length := by
  refine ⟨?_, ?_⟩
  · rw [List.drop_eq_getElem_cons hk]
    simp [List.takeWhile, hw]
  · have h1 := (List.takeWhile_prefix wordB (l := l.drop k)).length_le
    rw [List.length_drop] at h1
    omega
/-- What a token is that begins at k. -/
theorem nextT_end {l : List UInt8} : nextT l l.length = some (⟨0, [], l.length⟩, l.length) := by
  unfold nextT
  rw [List.getElem?_eq_none (Nat.le_refl _)]
theorem nextT_at {l : List UInt8} {k : Nat} (hk : k < l.length) : nextT l k = (if l[k] = 32 then some (⟨1, [], k⟩, k + 1)
    else if l[k] = 40 then some (⟨2, [], k⟩, k + 1)
    else if l[k] = 41 then some (⟨3, [], k⟩, k + 1)
    else if l[k] = 34 then (scanQ l k).map fun x => (⟨5, x.1, k⟩, x.2)
    else if l[k] = 123 then (scanL l k).map fun x => (⟨6, x.1, k⟩, x.2)
    else if wordB l[k] then some (⟨4, (l.drop k).takeWhile wordB, k⟩, k + ((l.drop k).takeWhile wordB).length)
    else none) := by
  unfold nextT
  rw [List.getElem?_eq_getElem hk]
theorem nextT_some {l : List UInt8} {k : Nat} (hk : k ≤ l.length) {t : Tok} {j : Nat} (h : nextT l k = some (t, j)) :
    t.at0 = k ∧ ((t.kind = 0 ∧ k = l.length ∧ j = k ∧ t.text = []) ∨ (1 ≤ t.kind ∧ t.kind ≤ 6 ∧ k < j ∧ j ≤ l.length ∧ t.text.length ≤ l.length)) := by
  rcases Nat.lt_or_ge k l.length with hk2 | hk2
  · rw [nextT_at hk2] at h
    have hs : ∀ {n : Nat}, 1 ≤ n → n ≤ 6 → some ((⟨n, [], k⟩ : Tok), k + 1) = some (t, j) → t.at0 = k ∧ ((t.kind = 0 ∧ k = l.length ∧ j = k ∧ t.text = []) ∨ (1 ≤ t.kind ∧ t.kind ≤ 6 ∧ k < j ∧ j ≤ l.length ∧ t.text.length ≤ l.length)) := by
      intro n h1 h2 e
      injection e with e
      injection e with e1 e2
      subst e1 e2
      exact ⟨rfl, .inr ⟨h1, h2, by omega, by omega, by simp⟩⟩
    split at h
    · exact hs (by omega) (by omega) h
    · split at h
      · exact hs (by omega) (by omega) h
      · split at h
        · exact hs (by omega) (by omega) h
        · split at h
          · rw [Option.map_eq_some_iff] at h
            obtain ⟨x, hx, e⟩ := h
            have hl := scanQ_len l k
            rw [hx] at hl
            have he := scanQ_end hx
            injection e with e1 e2
            subst e1 e2
            exact ⟨rfl, .inr ⟨by simp, by simp, he.1, he.2, hl⟩⟩
          · split at h
            · rw [Option.map_eq_some_iff] at h
              obtain ⟨x, hx, e⟩ := h
              have hl := scanL_len l k
              rw [hx] at hl
              have he := scanL_end hx
              injection e with e1 e2
              subst e1 e2
              exact ⟨rfl, .inr ⟨by simp, by simp, he.1, he.2, hl⟩⟩
            · split at h
              · rename_i hw
                have hd := wd_len hk2 hw
                injection h with e
                injection e with e1 e2
                subst e1 e2
                exact ⟨rfl, .inr ⟨by simp, by simp, by omega, hd.2, by show ((l.drop k).takeWhile wordB).length ≤ _; omega⟩⟩
              · cases h
  · obtain rfl : k = l.length := by omega
    rw [nextT_end] at h
    injection h with e
    injection e with e1 e2
    subst e1 e2
    exact ⟨rfl, .inl ⟨rfl, rfl, rfl, rfl⟩⟩

/-- Tokens ahead of others. -/
def preT (ts : List Tok) : List Tok ⊕ Nat → List Tok ⊕ Nat
  | .inl r => .inl (ts ++ r)
  | .inr e => .inr e
/-- How far the tokens of l have been read: ts, and the next begins at k. -/
def TkAt (l : List UInt8) (k : Nat) (ts : List Tok) (R : List Tok ⊕ Nat) : Prop := k ≤ l.length ∧ ts.length ≤ k ∧ ∃ m, l.length < k + m ∧ preT ts (toksT l m k) = R
theorem TkAt.start (l : List UInt8) : TkAt l 0 [] (tokens l) := ⟨Nat.zero_le _, by simp, l.length + 1, by omega, by
  unfold tokens
  cases toksT l (l.length + 1) 0 <;> rfl⟩
theorem TkAt.bad {l : List UInt8} {k : Nat} {ts : List Tok} {R : List Tok ⊕ Nat} (h : TkAt l k ts R) (hn : nextT l k = none) : R = .inr k := by
  obtain ⟨hk, _, m, hm, rfl⟩ := h
  obtain ⟨m', rfl⟩ : ∃ m', m = m' + 1 := ⟨m - 1, by omega⟩
  unfold toksT
  rw [hn]; rfl
theorem TkAt.last {l : List UInt8} {k j : Nat} {ts : List Tok} {R : List Tok ⊕ Nat} {t : Tok} (h : TkAt l k ts R) (hn : nextT l k = some (t, j)) (h0 : t.kind = 0) : R = .inl (ts ++ [t]) := by
  obtain ⟨hk, _, m, hm, rfl⟩ := h
  obtain ⟨m', rfl⟩ : ∃ m', m = m' + 1 := ⟨m - 1, by omega⟩
  unfold toksT
  rw [hn]
  simp only [h0, if_true]
  rfl
theorem TkAt.next {l : List UInt8} {k j : Nat} {ts : List Tok} {R : List Tok ⊕ Nat} {t : Tok} (h : TkAt l k ts R) (hn : nextT l k = some (t, j)) (h0 : t.kind ≠ 0) : TkAt l j (ts ++ [t]) R := by
  obtain ⟨hk, hts, m, hm, rfl⟩ := h
  obtain ⟨m', rfl⟩ : ∃ m', m = m' + 1 := ⟨m - 1, by omega⟩
  have hs := nextT_some hk hn
  rcases hs.2 with hs | hs
  · exact absurd hs.1 h0
  · refine ⟨hs.2.2.2.1, by rw [List.length_append, List.length_singleton]; omega, m', by omega, ?_⟩
    rw [show toksT l (m' + 1) k = (match toksT l m' j with | .inl r => .inl (t :: r) | .inr e => .inr e) from by
      conv => lhs; unfold toksT
      rw [hn]
      simp only [h0, if_false]
      cases toksT l m' j <;> rfl]
    cases toksT l m' j with
    | inl r => simp [preT]
    | inr e => rfl
/-- The list of tokens, empty if there is none; and the offset that is handed back. -/
def lstT : List Tok ⊕ Nat → List Tok
  | .inl ts => ts
  | .inr _ => []
def atT : List Tok ⊕ Nat → Int
  | .inl _ => -1
  | .inr e => e
def tokCells (ts : List Tok) : List Value := ts.flatMap fun t => [.int .i64 t.kind, .string ⟨t.text.toArray⟩, .int .i64 t.at0]
theorem tokCells_len (ts : List Tok) : (tokCells ts).length = ts.length * 3 := by
  induction ts with
  | nil => rfl
  | cons t ts ih => simp only [tokCells, List.flatMap_cons, List.length_append, List.length_cons, List.length_nil] at *; omega
theorem tokCells_app (a b : List Tok) : tokCells (a ++ b) = tokCells a ++ tokCells b := by simp [tokCells]
theorem tokCells_one (ts : List Tok) : ∀ u ∈ tokCells ts, u.oneCell' = true := by
  intro u hu
  unfold tokCells at hu
  rw [List.mem_flatMap] at hu
  obtain ⟨t, _, ht⟩ := hu
  simp only [List.mem_cons, List.not_mem_nil, or_false] at ht
  rcases ht with rfl | rfl | rfl <;> rfl
theorem tokCells_at {ts : List Tok} {i : Nat} (h : i < ts.length) : (tokCells ts)[3 * i]? = some (.int .i64 ts[i].kind) ∧ (tokCells ts)[3 * i + 1]? = some (.string ⟨ts[i].text.toArray⟩) ∧ (tokCells ts)[3 * i + 2]? = some (.int .i64 ts[i].at0) := by
  induction ts generalizing i with
  | nil => simp at h
  | cons t ts ih =>
    have e : tokCells (t :: ts) = [.int .i64 t.kind, .string ⟨t.text.toArray⟩, .int .i64 t.at0] ++ tokCells ts := rfl
    cases i with
    | zero => exact ⟨rfl, rfl, rfl⟩
    | succ i =>
      have hi : i < ts.length := by simpa using h
      obtain ⟨h1, h2, h3⟩ := ih hi
      rw [e]
      refine ⟨?_, ?_, ?_⟩
      · rw [List.getElem?_append_right (by simp; omega)]
        simpa [show 3 * (i + 1) - 3 = 3 * i by omega] using h1
      · rw [List.getElem?_append_right (by simp; omega)]
        simpa [show 3 * (i + 1) + 1 - 3 = 3 * i + 1 by omega] using h2
      · rw [List.getElem?_append_right (by simp; omega)]
        simpa [show 3 * (i + 1) + 2 - 3 = 3 * i + 2 by omega] using h3
end Go.Proofs.YtkifhgnoadmfkaaDoor
namespace Go.Proofs.YtkifhgnoadmfkaaDoor
open Go.RowKit

/-- The reader: where its bytes lie, and its offset. -/
def RdSt (w : World) (g : Nat) (P : Option Addr) (n c : Nat) (k : Int) : Prop := Blk w g 47 #[.slice P n c, .int .i64 k]
theorem RdSt.cells {w : World} {g n c : Nat} {P : Option Addr} {k : Int} (h : RdSt w g P n c k) : w.cell? ⟨g, 0, none⟩ = some (.slice P n c) ∧ w.cell? ⟨g, 1, none⟩ = some (.int .i64 k) ∧ w.frozen? ⟨g, 1, none⟩ = false ∧ g < w.heap.size :=
  ⟨by rw [Blk.cell h]; rfl, by rw [Blk.cell h]; rfl, Blk.frz h 1, Blk.lt h⟩
theorem RdSt.grown {w w' : World} {g n c : Nat} {P : Option Addr} {k : Int} {row : Option Nat} (h : RdSt w g P n c k) (hg : w.grownBy w' row) (hr : some g ≠ row) : RdSt w' g P n c k := (hg.block g (Blk.lt h) hr).trans h
theorem RdSt.below {w w' : World} {g n c : Nat} {P : Option Addr} {k : Int} (h : RdSt w g P n c k) (hb : Below w.heap.size w w') : RdSt w' g P n c k := Blk.below h hb (Blk.lt h)
theorem RdSt.move {w : World} {g n c : Nat} {P : Option Addr} {k : Int} (h : RdSt w g P n c k) (k' : Int) : RdSt (w.setCell ⟨g, 1, none⟩ (.int .i64 k')) g P n c k' := Blk.put h 1 _
theorem grown_of_below {w w' : World} (h : Below w.heap.size w w') (row : Option Nat) : w.grownBy w' row := ⟨h.os, h.tape, h.output, h.size, fun k hk _ => h.block k hk⟩
theorem grown_trans {a b c : World} {row : Option Nat} (h : a.grownBy b row) (k : b.grownBy c row) : a.grownBy c row :=
  ⟨k.os.trans h.os, k.tape.trans h.tape, k.output.trans h.output, Nat.le_trans h.size k.size, fun i hi hne => (k.block i (Nat.lt_of_lt_of_le hi h.size) hne).trans (h.block i hi hne)⟩
theorem grown_set (w : World) (g o : Nat) (v : Value) : w.grownBy (w.setCell ⟨g, o, none⟩ v) (some g) :=
  ⟨rfl, rfl, rfl, by simp [World.setCell], fun k _ hne => Below.heap_setCell w ⟨g, o, none⟩ v k (fun e => hne (by rw [e]))⟩
theorem grown_new {w w1 : World} {row : Option Nat} (h : w.grownBy w1 row) {b : Nat} (hb : w.heap.size ≤ b) (o : Nat) (v : Value) : w.grownBy (w1.setCell ⟨b, o, none⟩ v) row :=
  ⟨h.os, h.tape, h.output, by simpa [World.setCell] using h.size, fun k hk hne => (Below.heap_setCell w1 ⟨b, o, none⟩ v k (by show k ≠ b; omega)).trans (h.block k hk hne)⟩
/-- What a method of the reader hands back and leaves. -/
def RdPost (w : World) (g : Nat) (P : Option Addr) (n c : Nat) (kind : Nat) (text : List UInt8) (at0 : Int) (ok : Bool) (k' : Int) (e : Ending) (w' : World) : Prop :=
  e = .returned (.tuple #[.agg #[.int .i64 kind, .string (ofL text), .int .i64 at0], .bool ok]) ∧ RdSt w' g P n c k' ∧ w.grownBy w' (some g)

set_option maxRecDepth 100000 in
theorem sign_any (g : Nat) (P : Option Addr) (n c : Nat) (k : Nat) (kind : Nat) (w : World) (h : RdSt w g P n c k) (hk : k ≤ 1048576) :
    Calls Tryd.prog 59 #[.pointer (some ⟨g, 0, none⟩), .int .i64 kind] w (RdPost w g P n c kind [] 0 true ((k : Int) + 1)) := by
  obtain ⟨c0, c1, f1, hlt⟩ := h.cells
  have H := Lib.hid h
  have hne : w.heap.size ≠ g := by omega
  have hk2 : (k : Int) ≤ 1048576 := by omega
  clear h
  go_enter Tryd.func59, Tryd.ntmps59
  go_wp2
  exact bodyPost_ret (v := .tuple #[.agg #[.int .i64 kind, .string ⟨#[]⟩, .int .i64 0], .bool true]) (by simp [results, Tryd.results59, go_sem]) rfl
    ⟨rfl, Blk.past (H.out.move _) _, grown_trans (grown_set _ _ _ _) (World.grownBy_alloc _ _ _)⟩
set_option maxRecDepth 100000 in
theorem space_any (g : Nat) (P : Option Addr) (n c : Nat) (k : Nat) (w : World) (h : RdSt w g P n c k) (hk : k ≤ 1048576) :
    Calls Tryd.prog 39 #[.pointer (some ⟨g, 0, none⟩)] w (RdPost w g P n c 1 [] 0 true ((k : Int) + 1)) := by
  have HS := Lib.hid (fun w (h : RdSt w g P n c k) => sign_any g P n c k 1 w h hk)
  have hlt := Blk.lt h
  have H := Lib.hid h
  clear h
  go_enter Tryd.func39, Tryd.ntmps39
  go_wp2_with fail
  refine (HS.out _ ?_).mono ?_
  · exact Blk.past H.out _
  · rintro e w1 ⟨rfl, hr, hg⟩
    have hbk : Blk w1 w.heap.size 36 #[.int .i64 0, .string ⟨#[]⟩, .int .i64 0] := (hg.block w.heap.size (by rw [World.size_alloc]; omega) (by simp only [ne_eq, Option.some.injEq]; omega)).trans (heap_alloc_new w _)
    have d0 : w1.cell? ⟨w.heap.size, 0, none⟩ = some (.int .i64 0) := by rw [hbk.cell]; rfl
    have d1 : w1.cell? ⟨w.heap.size, 1, none⟩ = some (.string ⟨#[]⟩) := by rw [hbk.cell]; rfl
    have d2 : w1.cell? ⟨w.heap.size, 2, none⟩ = some (.int .i64 0) := by rw [hbk.cell]; rfl
    have f0 := hbk.frz 0
    have f1 := hbk.frz 1
    have f2 := hbk.frz 2
    have HH := Lib.hid (And.intro hr (And.intro hg hbk))
    clear hr hg hbk
    go_wp2_with fail
    have hput := ((HH.out.2.2.put 0 (.int .i64 1)).put 1 (.string (ofL []))).put 2 (.int .i64 0)
    have e0 := hput.cell 0
    have e1 := hput.cell 1
    have e2 := hput.cell 2
    have hgb : g ≠ w.heap.size := by omega
    refine bodyPost_ret (v := .tuple #[.agg #[.int .i64 1, .string (ofL []), .int .i64 0], .bool true]) (by simp [results, Tryd.results39, go_sem, e0, e1, e2]) rfl
      ⟨rfl, ((Blk.far HH.out.1 (p := ⟨w.heap.size, 0, none⟩) hgb _).far (p := ⟨w.heap.size, 1, none⟩) hgb _).far (p := ⟨w.heap.size, 2, none⟩) hgb _, ?_⟩
    exact grown_new (grown_new (grown_new (grown_trans (World.grownBy_alloc w _ _) HH.out.2.1) (Nat.le_refl _) _ _) (Nat.le_refl _) _ _) (Nat.le_refl _) _ _
set_option maxRecDepth 100000 in
theorem opn_any (g : Nat) (P : Option Addr) (n c : Nat) (k : Nat) (w : World) (h : RdSt w g P n c k) (hk : k ≤ 1048576) :
    Calls Tryd.prog 40 #[.pointer (some ⟨g, 0, none⟩)] w (RdPost w g P n c 2 [] 0 true ((k : Int) + 1)) := by
  have HS := Lib.hid (fun w (h : RdSt w g P n c k) => sign_any g P n c k 2 w h hk)
  have hlt := Blk.lt h
  have H := Lib.hid h
  clear h
  go_enter Tryd.func40, Tryd.ntmps40
  go_wp2_with fail
  refine (HS.out _ ?_).mono ?_
  · exact Blk.past H.out _
  · rintro e w1 ⟨rfl, hr, hg⟩
    have hbk : Blk w1 w.heap.size 36 #[.int .i64 0, .string ⟨#[]⟩, .int .i64 0] := (hg.block w.heap.size (by rw [World.size_alloc]; omega) (by simp only [ne_eq, Option.some.injEq]; omega)).trans (heap_alloc_new w _)
    have d0 : w1.cell? ⟨w.heap.size, 0, none⟩ = some (.int .i64 0) := by rw [hbk.cell]; rfl
    have d1 : w1.cell? ⟨w.heap.size, 1, none⟩ = some (.string ⟨#[]⟩) := by rw [hbk.cell]; rfl
    have d2 : w1.cell? ⟨w.heap.size, 2, none⟩ = some (.int .i64 0) := by rw [hbk.cell]; rfl
    have f0 := hbk.frz 0
    have f1 := hbk.frz 1
    have f2 := hbk.frz 2
    have HH := Lib.hid (And.intro hr (And.intro hg hbk))
    clear hr hg hbk
    go_wp2_with fail
    have hput := ((HH.out.2.2.put 0 (.int .i64 2)).put 1 (.string (ofL []))).put 2 (.int .i64 0)
    have e0 := hput.cell 0
    have e1 := hput.cell 1
    have e2 := hput.cell 2
    have hgb : g ≠ w.heap.size := by omega
    refine bodyPost_ret (v := .tuple #[.agg #[.int .i64 2, .string (ofL []), .int .i64 0], .bool true]) (by simp [results, Tryd.results40, go_sem, e0, e1, e2]) rfl
      ⟨rfl, ((Blk.far HH.out.1 (p := ⟨w.heap.size, 0, none⟩) hgb _).far (p := ⟨w.heap.size, 1, none⟩) hgb _).far (p := ⟨w.heap.size, 2, none⟩) hgb _, ?_⟩
    exact grown_new (grown_new (grown_new (grown_trans (World.grownBy_alloc w _ _) HH.out.2.1) (Nat.le_refl _) _ _) (Nat.le_refl _) _ _) (Nat.le_refl _) _ _
set_option maxRecDepth 100000 in
theorem cls_any (g : Nat) (P : Option Addr) (n c : Nat) (k : Nat) (w : World) (h : RdSt w g P n c k) (hk : k ≤ 1048576) :
    Calls Tryd.prog 41 #[.pointer (some ⟨g, 0, none⟩)] w (RdPost w g P n c 3 [] 0 true ((k : Int) + 1)) := by
  have HS := Lib.hid (fun w (h : RdSt w g P n c k) => sign_any g P n c k 3 w h hk)
  have hlt := Blk.lt h
  have H := Lib.hid h
  clear h
  go_enter Tryd.func41, Tryd.ntmps41
  go_wp2_with fail
  refine (HS.out _ ?_).mono ?_
  · exact Blk.past H.out _
  · rintro e w1 ⟨rfl, hr, hg⟩
    have hbk : Blk w1 w.heap.size 36 #[.int .i64 0, .string ⟨#[]⟩, .int .i64 0] := (hg.block w.heap.size (by rw [World.size_alloc]; omega) (by simp only [ne_eq, Option.some.injEq]; omega)).trans (heap_alloc_new w _)
    have d0 : w1.cell? ⟨w.heap.size, 0, none⟩ = some (.int .i64 0) := by rw [hbk.cell]; rfl
    have d1 : w1.cell? ⟨w.heap.size, 1, none⟩ = some (.string ⟨#[]⟩) := by rw [hbk.cell]; rfl
    have d2 : w1.cell? ⟨w.heap.size, 2, none⟩ = some (.int .i64 0) := by rw [hbk.cell]; rfl
    have f0 := hbk.frz 0
    have f1 := hbk.frz 1
    have f2 := hbk.frz 2
    have HH := Lib.hid (And.intro hr (And.intro hg hbk))
    clear hr hg hbk
    go_wp2_with fail
    have hput := ((HH.out.2.2.put 0 (.int .i64 3)).put 1 (.string (ofL []))).put 2 (.int .i64 0)
    have e0 := hput.cell 0
    have e1 := hput.cell 1
    have e2 := hput.cell 2
    have hgb : g ≠ w.heap.size := by omega
    refine bodyPost_ret (v := .tuple #[.agg #[.int .i64 3, .string (ofL []), .int .i64 0], .bool true]) (by simp [results, Tryd.results41, go_sem, e0, e1, e2]) rfl
      ⟨rfl, ((Blk.far HH.out.1 (p := ⟨w.heap.size, 0, none⟩) hgb _).far (p := ⟨w.heap.size, 1, none⟩) hgb _).far (p := ⟨w.heap.size, 2, none⟩) hgb _, ?_⟩
    exact grown_new (grown_new (grown_new (grown_trans (World.grownBy_alloc w _ _) HH.out.2.1) (Nat.le_refl _) _ _) (Nat.le_refl _) _ _) (Nat.le_refl _) _ _
end Go.Proofs.YtkifhgnoadmfkaaDoor
