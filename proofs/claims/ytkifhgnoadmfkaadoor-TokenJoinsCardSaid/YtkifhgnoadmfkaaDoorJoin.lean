/- The walk of token.Join. -/
import Derived.Test.YtkifhgnoadmfkaaDoorJ18
import Derived.Test.YtkifhgnoadmfkaaDoorJ13
import Derived.Test.YtkifhgnoadmfkaaDoorShelfB
import Derived.Test.YtkifhgnoadmfkaaDoorJ3
set_option linter.unusedVariables false
set_option linter.unusedSimpArgs false
namespace Go.Proofs.YtkifhgnoadmfkaaDoor
open Go.RowKit

theorem isBuffer_later {T e : TypeId} {B b : Nat} {bs : List Value} {w w' : World} (h : Lib.IsBuffer T e B b bs w) (hb : Below w.heap.size w w') : Lib.IsBuffer T e B b bs w' := by
  have hlt := h.lt
  obtain ⟨h1, v, lr, h2, h3, h4⟩ := h
  refine ⟨h1, v, lr, (hb.block b hlt).trans h2, h3.kept (grown_of_below hb none) ?_, h4⟩
  cases hv : v.ownBlock with
  | none => exact .inl rfl
  | some j => exact .inr (by simp)
theorem joinT_next {ts : List Tok} {k : Nat} (h : k < ts.length) : joinT (ts.take (k + 1)) = joinT (ts.take k) ++ bytT ts[k] := by
  unfold joinT; rw [List.take_succ_eq_append_getElem h, List.flatMap_append]; simp
theorem joinT_le (ts : List Tok) (k : Nat) : (joinT (ts.take k)).length ≤ (joinT ts).length := by
  conv => rhs; rw [← List.take_append_drop k ts]
  unfold joinT
  rw [List.flatMap_append, List.length_append]; omega
theorem byteCells_app2 (a b : List UInt8) : Lib.byteCells a ++ Lib.byteCells b = Lib.byteCells (a ++ b) := by simp [Lib.byteCells]
theorem quoV_get (o : Option (List UInt8)) : quoV o = .tuple #[.string (ofL (o.getD [])), .bool o.isSome] := by cases o <;> rfl

theorem jquo_len (l : List UInt8) (h : l.length ≤ 1048500) : ((quoB l).getD []).length ≤ 2097152 := by
  unfold quoB
  split
  · have := qesc_len l
    simp only [Option.getD_some, List.length_cons, List.length_append, List.length_nil]; omega
  · simp
theorem jlit_len (l : List UInt8) (h : l.length ≤ 1048500) : (litB l).length ≤ 1048576 := by
  have := decDigits_len l.length (by omega)
  unfold litB litH
  simp only [List.length_append, List.length_cons, List.length_nil]; omega
theorem buf_some {w : World} {base : Nat} {v : Value} {l : List UInt8} (h : Buf w base 1 v l.length (Lib.byteCells l)) (h0 : 0 < l.length) : ∃ g o c, v = .slice (some ⟨g, o, none⟩) l.length c ∧ base ≤ g ∧ ∀ i (h : i < l.length), w.cell? ⟨g, o + i, none⟩ = some (.int .u8 (l[i].toNat : Int)) := by
  rcases h.2 with ⟨rfl, h1⟩ | ⟨g, off, cap, rfl, hg, hlt, hnc, hc, hf⟩
  · omega
  · exact ⟨g, off, cap, rfl, hg, fun i hi => hc i _ (byteCells_at l i hi)⟩
/-- The relation of Join's loop. -/
def JnRel (w0 : World) (ts : List Tok) (i : Value) (wr : World) : Prop :=
  ∃ k : Nat, k ≤ ts.length ∧ i = .int .i64 k ∧ Lib.IsBuffer 59 5 w0.heap.size w0.heap.size (Lib.byteCells (joinT (ts.take k))) wr ∧ Below w0.heap.size w0 wr

set_option maxRecDepth 100000 in
set_option maxHeartbeats 3200000 in
theorem join_any (A : Option Addr) (cap : Nat) (ts : List Tok) (w : World) (h : TkIn w w.heap.size A ts) (hk6 : ∀ i (hi : i < ts.length), ts[i].kind ≤ 6) (htx : ∀ i (hi : i < ts.length), ts[i].text.length ≤ 1048000) (hl : ts.length ≤ 1048576) (hj : (joinT ts).length ≤ 1048576) (hS : Std w) :
    Calls Tryd.prog 16 #[.slice A ts.length cap] w (RetB w (joinT ts)) := by
  have H := Lib.hid h
  have HK := Lib.hid hk6
  have HX := Lib.hid htx
  have HJ := Lib.hid hj
  have HSS := Lib.hid hS
  obtain ⟨n, hn⟩ : ∃ n, ts.length = n := ⟨_, rfl⟩
  have HN := Lib.hid hn
  rw [hn] at hl ⊢
  clear hn h hk6 htx hj hS
  go_enter Tryd.func16, Tryd.ntmps16
  go_wp2_with fail
  go_loopw [10] (fun i wr => JnRel w ts i wr) (fun i _ => n - (intOf i).toNat)
  case atStart => exact ⟨0, Nat.zero_le _, rfl, Lib.fresh_isBuffer _ _ _, (Below.refl _ _).alloc (Nat.le_refl _) _⟩
  case round =>
    obtain ⟨k, hk, rfl, hbf, hw⟩ := hrel
    have HW := Lib.hid hw
    have hsz : w.heap.size ≤ wr.heap.size := hw.size
    have hlen : (Lib.byteCells (joinT (ts.take k))).length ≤ 1048576 := by rw [Lib.byteCells_length]; exact Nat.le_trans (joinT_le ts k) HJ.out
    have HBF := Lib.hid (fun W (hW : Below wr.heap.size wr W) => isBuffer_later hbf hW)
    have HLN := Lib.hid hlen
    rw [HN.out] at hk
    clear hbf hlen
    by_cases hkn : k < n
    · have hkl : k < ts.length := by rw [HN.out]; exact hkn
      obtain ⟨g1, o1, rfl, hg1, a1, a2, a3⟩ := H.out.below hw k hkl
      have hg1' : g1 < wr.heap.size := by omega
      have hk0 : (0 : Int) ≤ k := by omega
      have hk1 : (k : Int) < n := by omega
      have HNX := Lib.hid (joinT_next hkl)
      have h6 := HK.out k hkl
      have hx := HX.out k hkl
      obtain ⟨⟨kind, text, at0⟩, ht⟩ : ∃ t, ts[k] = t := ⟨_, rfl⟩
      rw [ht] at a1 a2 a3 HNX h6 hx
      dsimp only at a1 a2 a3 h6 hx
      clear ht hw hkl
      have HEND : Hid (∀ W bs', bs' = bytT ⟨kind, text, at0⟩ → Lib.IsBuffer 59 5 w.heap.size w.heap.size (Lib.byteCells (joinT (ts.take k)) ++ Lib.byteCells bs') W → Below w.heap.size w W → JnRel w ts (.int .i64 ((k : Int) + 1)) W) := Lib.hid (fun W bs' e h1 h2 => ⟨k + 1, by have := HN.out; omega, by go_num, by rw [HNX.out, ← e, ← byteCells_app2]; exact h1, h2⟩)
      have HB0 := Lib.hid (fun W (hW : Below wr.heap.size wr W) => HW.out.trans (hW.mono hsz))
      obtain rfl | rfl | rfl | rfl | rfl | rfl | rfl : kind = 0 ∨ kind = 1 ∨ kind = 2 ∨ kind = 3 ∨ kind = 4 ∨ kind = 5 ∨ kind = 6 := by omega
      · rw [show (((0 : Nat) : Int)) = 0 from rfl] at a1
        go_wp2_with fail
        go_roundw
        case rel =>
          have hb := (Below.refl wr.heap.size wr).alloc (Nat.le_refl _) (.cells #[.int .i64 0, .string ⟨text.toArray⟩, .int .i64 at0] 36)
          exact HEND.out _ [] rfl (by simpa [Lib.byteCells] using HBF.out _ hb) (HB0.out _ hb)
        case measure => simp [intOf]; omega
      · rw [show (((1 : Nat) : Int)) = 1 from rfl] at a1
        have HWB := Lib.hid (fun W (hW : Below wr.heap.size wr W) => Tryd.Buffer_WriteByte_k w.heap.size w.heap.size _ 32 W (HBF.out W hW) (Nat.le_trans hsz hW.size) (Lib.byteCells_one _) (by have := HLN.out; omega))
        go_wp2_with fail
        refine (HWB.out _ ((Below.refl wr.heap.size wr).alloc (Nat.le_refl _) _)).mono ?_
        rintro e w1 ⟨rfl, hib, hb1, -⟩
        have HE1 := Lib.hid (HEND.out w1 [32] rfl hib ((HB0.out _ ((Below.refl wr.heap.size wr).alloc (Nat.le_refl _) _)).trans hb1))
        clear hib hb1
        go_wp2_with fail
        go_roundw
        case rel => exact HE1.out
        case measure => simp [intOf]; omega
      · rw [show (((2 : Nat) : Int)) = 2 from rfl] at a1
        have HWB := Lib.hid (fun W (hW : Below wr.heap.size wr W) => Tryd.Buffer_WriteByte_k w.heap.size w.heap.size _ 40 W (HBF.out W hW) (Nat.le_trans hsz hW.size) (Lib.byteCells_one _) (by have := HLN.out; omega))
        go_wp2_with fail
        refine (HWB.out _ ((Below.refl wr.heap.size wr).alloc (Nat.le_refl _) _)).mono ?_
        rintro e w1 ⟨rfl, hib, hb1, -⟩
        have HE1 := Lib.hid (HEND.out w1 [40] rfl hib ((HB0.out _ ((Below.refl wr.heap.size wr).alloc (Nat.le_refl _) _)).trans hb1))
        clear hib hb1
        go_wp2_with fail
        go_roundw
        case rel => exact HE1.out
        case measure => simp [intOf]; omega
      · rw [show (((3 : Nat) : Int)) = 3 from rfl] at a1
        have HWB := Lib.hid (fun W (hW : Below wr.heap.size wr W) => Tryd.Buffer_WriteByte_k w.heap.size w.heap.size _ 41 W (HBF.out W hW) (Nat.le_trans hsz hW.size) (Lib.byteCells_one _) (by have := HLN.out; omega))
        go_wp2_with fail
        refine (HWB.out _ ((Below.refl wr.heap.size wr).alloc (Nat.le_refl _) _)).mono ?_
        rintro e w1 ⟨rfl, hib, hb1, -⟩
        have HE1 := Lib.hid (HEND.out w1 [41] rfl hib ((HB0.out _ ((Below.refl wr.heap.size wr).alloc (Nat.le_refl _) _)).trans hb1))
        clear hib hb1
        go_wp2_with fail
        go_roundw
        case rel => exact HE1.out
        case measure => simp [intOf]; omega
      · rw [show (((4 : Nat) : Int)) = 4 from rfl] at a1
        have HWS := Lib.hid (fun W (hW : Below wr.heap.size wr W) => Tryd.Buffer_WriteString_k w.heap.size w.heap.size _ ⟨text.toArray⟩ W (HBF.out W hW) (Nat.le_trans hsz hW.size) (Lib.byteCells_one _) (by have := HLN.out; have : (ofL text).size = text.length := ofL_size text; show _ + (ofL text).size ≤ _; omega))
        go_wp2_with fail
        refine (HWS.out _ ((Below.refl wr.heap.size wr).alloc (Nat.le_refl _) _)).mono ?_
        rintro e w1 ⟨rfl, hib, hb1, -⟩
        have HE1 := Lib.hid (HEND.out w1 text rfl hib ((HB0.out _ ((Below.refl wr.heap.size wr).alloc (Nat.le_refl _) _)).trans hb1))
        clear hib hb1
        go_wp2_with fail
        go_roundw
        case rel => exact HE1.out
        case measure => simp [intOf]; omega
      · rw [show (((5 : Nat) : Int)) = 5 from rfl] at a1
        obtain ⟨v, w1, hcv, hcb, hc1⟩ := conv_new (wr.alloc (.cells #[.int .i64 5, .string ⟨text.toArray⟩, .int .i64 at0] 36)) ⟨text.toArray⟩
        have hcl : (⟨text.toArray⟩ : ByteArray).size = text.length := ofL_size text
        rw [hcl] at hcb
        obtain ⟨p1, c1, rfl, hcc, hy⟩ := Buf.bys (l := text) hcb
        have hbw1 : Below wr.heap.size wr w1 := ((Below.refl wr.heap.size wr).alloc (Nat.le_refl _) _).trans (hc1.mono (by rw [World.size_alloc]; omega))
        have HQ := quoted_any p1 c1 text w1 hy (by omega)
        rw [quoV_get] at HQ
        have hqs : ((quoB text).getD []).length ≤ 2097152 := jquo_len text (by omega)
        have hql := ofL_size ((quoB text).getD [])
        have HEQ : Hid (ofL ((quoB text).getD []) = ofL (bytT ⟨5, text, at0⟩)) := Lib.hid rfl
        generalize ofL ((quoB text).getD []) = qs at HQ HEQ hql
        have HWS := Lib.hid (fun W (hW : Below wr.heap.size wr W) => Tryd.Buffer_WriteString_k w.heap.size w.heap.size _ qs W (HBF.out W hW) (Nat.le_trans hsz hW.size) (Lib.byteCells_one _) (by have := HLN.out; omega))
        have HCV := Lib.hid hcv
        have HQ1 := Lib.hid HQ
        have HBW := Lib.hid hbw1
        clear hcv hcb hc1 hcc hy hbw1 HQ hql hqs hcl
        generalize (quoB text).isSome = ok at HQ1
        generalize text.length = tl at *
        go_wp2_with fail
        rw [HCV.out]
        simp only [Result.andThen]
        rw [Oper.upon_value]
        go_wp2_with fail
        refine HQ1.out.mono ?_
        rintro e w2 ⟨rfl, hb2⟩
        have HB2 := Lib.hid (HBW.out.trans (hb2.mono HBW.out.size))
        clear hb2
        go_wp2_with fail
        refine (HWS.out _ HB2.out).mono ?_
        rintro e w3 ⟨rfl, hib, hb3, -⟩
        have HE1 := Lib.hid (HEND.out w3 qs.data.toList (by rw [HEQ.out]; rfl) hib ((HB0.out _ HB2.out).trans hb3))
        clear hib hb3
        go_wp2_with fail
        go_roundw
        case rel => exact HE1.out
        case measure => simp [intOf]; omega
      · rw [show (((6 : Nat) : Int)) = 6 from rfl] at a1
        obtain ⟨v, w1, hcv, hcb, hc1⟩ := conv_new (wr.alloc (.cells #[.int .i64 6, .string ⟨text.toArray⟩, .int .i64 at0] 36)) ⟨text.toArray⟩
        have hcl : (⟨text.toArray⟩ : ByteArray).size = text.length := ofL_size text
        rw [hcl] at hcb
        obtain ⟨p1, c1, rfl, hcc, hy⟩ := Buf.bys (l := text) hcb
        have hbw1 : Below wr.heap.size wr w1 := ((Below.refl wr.heap.size wr).alloc (Nat.le_refl _) _).trans (hc1.mono (by rw [World.size_alloc]; omega))
        have HQ1 := Lib.hid (literal_any p1 c1 text w1 hy (by omega) hcc (HSS.out.below (HB0.out _ hbw1)))
        have hlb := jlit_len text (by omega)
        have hlp : 0 < (litB text).length := by unfold litB litH; simp
        have hws : wr.heap.size ≤ w1.heap.size := hbw1.size
        have HWB := Lib.hid (fun g3 o3 c3 W (hW : Below wr.heap.size wr W) (hg : wr.heap.size ≤ g3) (hs : ∀ i (h : i < (litB text).length), W.cell? ⟨g3, o3 + i, none⟩ = some (.int .u8 ((litB text)[i].toNat : Int))) => Tryd.Buffer_Write_any w.heap.size w.heap.size _ (Lib.byteCells (litB text)) ⟨g3, o3, none⟩ (litB text).length c3 W (HBF.out W hW) (Nat.le_trans hsz hW.size) (Lib.byteCells_one _) (Lib.byteCells_length _) (by have := (HBF.out wr (Below.refl _ _)).lt; dsimp only; omega) (fun j u hj => by
            have hj' : j < (litB text).length := by have := (List.getElem?_eq_some_iff.1 hj).1; simpa [Lib.byteCells] using this
            rw [Go.WideShapes.add_plain, hs j hj', ← byteCells_at _ j hj']; exact hj) (Lib.byteCells_one _) (by have := HLN.out; omega))
        have HEQ : Hid (litB text = bytT ⟨6, text, at0⟩) := Lib.hid rfl
        generalize litB text = qs at HQ1 HEQ HWB hlp hlb
        have HCV := Lib.hid hcv
        have HBW := Lib.hid hbw1
        have HLP := Lib.hid hlp
        clear hcv hcb hc1 hcc hy hbw1 hcl hlb hlp
        generalize text.length = tl at *
        go_wp2_with fail
        rw [HCV.out]
        simp only [Result.andThen]
        rw [Oper.upon_value]
        go_wp2_with fail
        refine HQ1.out.mono ?_
        rintro e w2 ⟨v2, rfl, hbuf, hb2⟩
        have HB2 := Lib.hid (HBW.out.trans (hb2.mono HBW.out.size))
        obtain ⟨g3, o3, c3, rfl, hg3, hcells⟩ := buf_some hbuf HLP.out
        have HC3 := Lib.hid (HWB.out g3 o3 c3 w2 HB2.out (Nat.le_trans hws hg3) hcells)
        clear hb2 hbuf hg3 hcells HWB HLP
        generalize qs.length = ql at *
        go_wp2_with fail
        refine HC3.out.mono ?_
        rintro e w3 ⟨rfl, hib, hb3, -⟩
        have HE1 := Lib.hid (HEND.out w3 qs HEQ.out hib ((HB0.out _ HB2.out).trans hb3))
        clear hib hb3
        go_wp2_with fail
        go_roundw
        case rel => exact HE1.out
        case measure => simp [intOf]; omega
    · obtain rfl : k = n := by omega
      have HBB := Lib.hid (Tryd.Buffer_Bytes w.heap.size w.heap.size _ wr (HBF.out wr (Below.refl _ _)))
      have HTK : Hid (joinT (ts.take k) = joinT ts) := Lib.hid (by rw [List.take_of_length_le (by have := HN.out; omega)])
      go_wp2_with fail
      refine HBB.out.mono ?_
      rintro e w1 ⟨v, rfl, hown, i, rfl⟩
      have HO := Lib.hid (Buf.of_own hown)
      clear hown
      go_wp2_with fail
      go_ret
      refine ⟨v, rfl, ?_, YtkifhgnoadmfkaaDoor.Below.many HW.out i⟩
      have := HO.out
      rw [HTK.out, Lib.byteCells_length] at this
      exact this
end Go.Proofs.YtkifhgnoadmfkaaDoor
