/- The walk of Tokens, given that of next. · The walk of Tokens. · The walks of same over tokens: the closure, slices.EqualFunc. · The walk of the example of chapter 06. · The walk of the reference's ScanQuoted. · The walk of the reference's ScanLiteral. -/
import Derived.Test.YtkifhgnoadmfkaaDoorJ5
import Derived.Test.YtkifhgnoadmfkaaDoorJ12
import Derived.Test.YtkifhgnoadmfkaaDoorJ3
import Derived.Test.YtkifhgnoadmfkaaDoorJ4
import Derived.Test.YtkifhgnoadmfkaaDoorLawForms
set_option linter.unusedVariables false
set_option linter.unusedSimpArgs false
namespace Go.Proofs.YtkifhgnoadmfkaaDoor
open Go.RowKit

/-- What Tokens hands back and leaves. -/
def TkPost (W : World) (o : List Tok ⊕ Nat) (e : Ending) (w' : World) : Prop :=
  ∃ v, e = .returned (.tuple #[v, .int .i64 (atT o)]) ∧ Buf w' W.heap.size 3 v (lstT o).length (tokCells (lstT o)) ∧ Below W.heap.size W w'

theorem infoTk : (Tryd.prog.info? 36).map (fun i => (i.zero, i.size, i.bytes)) = some (some (.agg #[.int .i64 0, .string ⟨#[]⟩, .int .i64 0]), 3, 32) := by kernel_rfl

theorem tk_app {sT eT : TypeId} (hu : Tryd.prog.underlying sT = some (.slice eT)) (hinf : (Tryd.prog.info? eT).map (fun i => (i.zero, i.size, i.bytes)) = some (some (.agg #[.int .i64 0, .string ⟨#[]⟩, .int .i64 0]), 3, 32))
    {W : World} {base : Nat} {out : Value} {ts : List Tok} (h : Buf W base 3 out ts.length (tokCells ts)) (hb : base ≤ W.heap.size) (hl : ts.length ≤ 1048576) (t : Tok) :
    ∃ v' w', (Builtin.append_ #[sT, sT] sT #[out, .slice (some ⟨W.heap.size, 0, none⟩) 1 1]).run Tryd.prog (W.alloc (.cells #[.int .i64 t.kind, .string ⟨t.text.toArray⟩, .int .i64 t.at0] eT)) = .ok v' w' ∧
      Buf w' base 3 v' (ts ++ [t]).length (tokCells (ts ++ [t])) ∧ W.grownBy w' out.ownBlock := by
  obtain ⟨i0, hi, hz0, hz1, hz2⟩ := info_parts hinf
  have hh := heap_alloc_new W (.cells #[.int .i64 t.kind, .string ⟨t.text.toArray⟩, .int .i64 t.at0] eT)
  have hsrc : Src (W.alloc (.cells #[.int .i64 t.kind, .string ⟨t.text.toArray⟩, .int .i64 t.at0] eT)) 3 (some ⟨W.heap.size, 0, none⟩) 1 (tokCells [t]) :=
    ⟨rfl, tokCells_one [t], fun _ => ⟨_, rfl, fun j u hj => by
      rw [Go.WideShapes.add_plain]
      simp only [World.cell?, hh, Nat.zero_add]
      simpa [tokCells] using hj⟩⟩
  obtain ⟨v', w', hrun, hbuf, hgr, hown⟩ := run_append_buf (P := Tryd.prog) _ sT sT eT i0 _ 3 32 hu hi hz0 hz1 hz2 rfl (by decide) base out ts.length _ (h.past _) (some ⟨W.heap.size, 0, none⟩) 1 1 _ hsrc (by unfold maxLen; omega) (by omega) (by rw [World.size_alloc]; omega)
  rw [← tokCells_app] at hbuf
  refine ⟨v', w', hrun, ?_, grown_trans (World.grownBy_alloc _ _ _) hgr⟩
  rw [show (ts ++ [t]).length = ts.length + 1 by simp]
  exact hbuf

theorem Buf.own_ge {w : World} {base size : Nat} {out : Value} {z : Nat} {xs : List Value} (h : Buf w base size out z xs) : ∀ j, out.ownBlock = some j → base ≤ j := by
  intro j hj
  rcases h.2 with ⟨rfl, _⟩ | ⟨b, off, cap, rfl, hb, _⟩
  · simp [Value.ownBlock] at hj
  · simp only [Value.ownBlock, Option.some.injEq] at hj; omega
theorem Buf.own_lt {w : World} {base size : Nat} {out : Value} {z : Nat} {xs : List Value} (h : Buf w base size out z xs) : ∀ j, out.ownBlock = some j → j < w.heap.size := by
  intro j hj
  rcases h.2 with ⟨rfl, _⟩ | ⟨b, off, cap, rfl, hb, hlt, _⟩
  · simp [Value.ownBlock] at hj
  · simp only [Value.ownBlock, Option.some.injEq] at hj; omega
theorem Blk.grown7 {w w' : World} {g : Nat} {t : TypeId} {cs : Array Value} {row : Option Nat} (h : Blk w g t cs) (hg : w.grownBy w' row) (hr : some g ≠ row) : Blk w' g t cs := (hg.block g (Blk.lt h) hr).trans h
/-- The relation of the loop. -/
def TkRel (w0 : World) (P : Option Addr) (l : List UInt8) (c : Nat) (R : List Tok ⊕ Nat) (out : Value) (wr : World) : Prop :=
  ∃ k ts A cap, out = .slice A ts.length cap ∧ TkAt l k ts R ∧ RdSt wr w0.heap.size P l.length c (k : Int) ∧ Buf wr (w0.heap.size + 1) 3 (.slice A ts.length cap) ts.length (tokCells ts) ∧ Below w0.heap.size w0 wr

set_option maxRecDepth 100000 in
set_option maxHeartbeats 1600000 in
theorem tokens_walk (P : Option Addr) (l : List UInt8) (c : Nat) (w : World) (hl : l.length ≤ 1048575)
    (NX : ∀ (k : Nat) W, RdSt W w.heap.size P l.length c (k : Int) → k ≤ l.length → Below w.heap.size w W → Calls Tryd.prog 23 #[.pointer (some ⟨w.heap.size, 0, none⟩)] W (NxPost W w.heap.size P l.length c k (nextT l k))) :
    Calls Tryd.prog 11 #[.slice P l.length c] w (TkPost w (tokens l)) := by
  have HN := Lib.hid NX
  have HT := Lib.hid (TkAt.start l)
  generalize tokens l = R at HT ⊢
  obtain ⟨n, hn⟩ : ∃ n, l.length = n := ⟨_, rfl⟩
  have HL := Lib.hid hn
  rw [hn]
  clear NX hn
  go_enter Tryd.func11, Tryd.ntmps11
  go_wp2_with fail
  go_loopw [4] (fun out wr => TkRel w P l c R out wr) (fun _ wr => l.length - curAt wr w.heap.size)
  case atStart =>
    refine ⟨0, [], none, 0, rfl, HT.out, ?_, Buf.nil _ _ _, (Below.refl _ _).alloc (Nat.le_refl _) _⟩
    rw [HL.out]
    exact Blk.made _ _ _
  case round =>
    obtain ⟨k, ts, A, cap, rfl, htk, hr, hbuf, hw⟩ := hrel
    have hkl : k ≤ l.length := htk.1
    have hts : ts.length ≤ k := htk.2.1
    have HNX := Lib.hid (HN.out k wr hr hkl hw)
    have HH := Lib.hid (And.intro htk (And.intro hr (And.intro hbuf hw)))
    have CUR := Lib.hid hr.at_cur
    obtain ⟨g, hg⟩ : ∃ g, w.heap.size = g := ⟨_, rfl⟩
    have HG := Lib.hid hg
    rw [hg] at hr HNX HH CUR ⊢
    obtain ⟨c0, c1, f1, hlt⟩ := RdSt.cells hr
    have hown : ∀ j, (Value.slice A ts.length cap).ownBlock = some j → g + 1 ≤ j := hg ▸ hbuf.own_ge
    have HO := Lib.hid hown
    clear htk hr hbuf hw hg hown
    cases hn : nextT l k with
    | none =>
      rw [hn] at HNX
      have R1 := Lib.hid (HH.out.1.bad hn)
      clear hn
      go_wp2_with fail
      refine HNX.out.mono ?_
      rintro e w1 ⟨kind, text, k', ⟨rfl, hr1, hg1⟩, -⟩
      have HB := Lib.hid (HH.out.2.2.2.grown hg1 (Nat.le_of_lt hlt) (fun j hj => by injection hj with hj; omega))
      have hlt1 : g < w1.heap.size := Nat.lt_of_lt_of_le hlt hg1.size
      clear hr1 hg1
      go_wp2_with fail
      go_ret2
      refine ⟨.slice none 0 0, by rw [R1.out]; rfl, ?_, ?_⟩
      · rw [R1.out]; exact Buf.nil _ _ _
      · rw [HG.out]; exact HB.out.alloc (Nat.le_of_lt hlt1) _
    | some x =>
      obtain ⟨⟨kind, text, at0⟩, j⟩ := x
      rw [hn] at HNX
      have hs := nextT_some hkl hn
      obtain rfl : at0 = k := hs.1
      have hs2 := hs.2
      dsimp only at hs2
      by_cases h0 : kind = 0
      · subst h0
        have R1 := Lib.hid (HH.out.1.last hn rfl)
        clear hn hs
        go_wp2_with fail
        refine HNX.out.mono ?_
        rintro e w1 ⟨kind2, text2, k', ⟨rfl, hr1, hg1⟩, hpt⟩
        obtain ⟨rfl, rfl, rfl⟩ := hpt _ _ rfl
        dsimp only
        have hlt1 : g < w1.heap.size := Nat.lt_of_lt_of_le hlt hg1.size
        have HB := Lib.hid (HH.out.2.2.2.grown hg1 (Nat.le_of_lt hlt) (fun j hj => by injection hj with hj; omega))
        have hbuf0 := HH.out.2.2.1.grown hg1 (fun j hj e => by injection e with e; have := HO.out j hj; omega)
        have hol := hbuf0.own_lt
        have hbuf1 := hbuf0.past (.cells #[.int .i64 ((0 : Nat) : Int), .string ⟨text2.toArray⟩, .int .i64 (at0 : Int)] 36)
        obtain ⟨v', w', hrun, hbuf', hgr⟩ := tk_app Tryd.underlying27 infoTk hbuf1 (by rw [World.size_alloc]; omega) (by omega) ⟨0, text2, at0⟩
        rw [World.size_alloc] at hrun
        have HB2 := Lib.hid (HB.out.alloc (Nat.le_of_lt hlt1) (.cells #[.int .i64 ((0 : Nat) : Int), .string ⟨text2.toArray⟩, .int .i64 (at0 : Int)] 36))
        have HF := Lib.hid (And.intro hbuf' (HB2.out.grown hgr (by rw [World.size_alloc]; omega) (fun j hj => by have := HO.out j hj; omega)))
        have HR := Lib.hid hrun
        have hbk : Blk w' w1.heap.size 36 #[.int .i64 ((0 : Nat) : Int), .string ⟨text2.toArray⟩, .int .i64 (at0 : Int)] := (hgr.block w1.heap.size (by rw [World.size_alloc]; omega) (fun e => by have := hol _ e.symm; omega)).trans (heap_alloc_new w1 _)
        have d0 : w'.cell? ⟨w1.heap.size, 0, none⟩ = some (.int .i64 ((0 : Nat) : Int)) := by rw [hbk.cell]; rfl
        have HR7 := Lib.hid (Blk.grown7 (Blk.past hr1 (.cells #[.int .i64 ((0 : Nat) : Int), .string ⟨text2.toArray⟩, .int .i64 (at0 : Int)] 36)) hgr (fun e => by have := HO.out _ e.symm; omega))
        obtain ⟨A2, cap2, rfl, -, -⟩ := hbuf'.src (tokCells_one _)
        clear hrun hbuf' hgr hbuf1 hr1 hg1 hpt hbuf0 hol hbk
        rw [show (((0 : Nat) : Int)) = 0 from rfl] at *
        go_wp2_with (at_builtin; refine wpList_append_run _ rfl (.tmp 24) (.tmp 26) _ _ rfl _ _ rfl rfl _ _ HR.out ?_)
        go_ret2
        refine ⟨.slice A2 (ts.length + 1) cap2, by rw [R1.out]; rfl, ?_, ?_⟩
        · rw [R1.out, HG.out]
          simpa only [List.length_append, List.length_singleton, lstT] using HF.out.1.mono (Nat.le_succ _)
        · rw [HG.out]; exact HF.out.2
      · rcases hs2 with hs2 | hs2
        · exact absurd hs2.1 h0
        have hj1 : at0 < j := hs2.2.2.1
        have hj2 : j ≤ l.length := hs2.2.2.2.1
        clear hs2
        have R1 := Lib.hid (HH.out.1.next hn h0)
        clear hn hs
        have hk0 : ((kind : Int) == 0) = false := by rw [beq_eq_false_iff_ne]; omega
        go_wp2_with fail
        refine HNX.out.mono ?_
        rintro e w1 ⟨kind2, text2, k', ⟨rfl, hr1, hg1⟩, hpt⟩
        obtain ⟨rfl, rfl, rfl⟩ := hpt _ _ rfl
        dsimp only
        have hlt1 : g < w1.heap.size := Nat.lt_of_lt_of_le hlt hg1.size
        have HB := Lib.hid (HH.out.2.2.2.grown hg1 (Nat.le_of_lt hlt) (fun j hj => by injection hj with hj; omega))
        have hbuf0 := HH.out.2.2.1.grown hg1 (fun j hj e => by injection e with e; have := HO.out j hj; omega)
        have hol := hbuf0.own_lt
        have hbuf1 := hbuf0.past (.cells #[.int .i64 (kind2 : Int), .string ⟨text2.toArray⟩, .int .i64 (at0 : Int)] 36)
        obtain ⟨v', w', hrun, hbuf', hgr⟩ := tk_app Tryd.underlying27 infoTk hbuf1 (by rw [World.size_alloc]; omega) (by omega) ⟨kind2, text2, at0⟩
        rw [World.size_alloc] at hrun
        have HB2 := Lib.hid (HB.out.alloc (Nat.le_of_lt hlt1) (.cells #[.int .i64 (kind2 : Int), .string ⟨text2.toArray⟩, .int .i64 (at0 : Int)] 36))
        have HF := Lib.hid (And.intro hbuf' (HB2.out.grown hgr (by rw [World.size_alloc]; omega) (fun j hj => by have := HO.out j hj; omega)))
        have HR := Lib.hid hrun
        have hbk : Blk w' w1.heap.size 36 #[.int .i64 (kind2 : Int), .string ⟨text2.toArray⟩, .int .i64 (at0 : Int)] := (hgr.block w1.heap.size (by rw [World.size_alloc]; omega) (fun e => by have := hol _ e.symm; omega)).trans (heap_alloc_new w1 _)
        have d0 : w'.cell? ⟨w1.heap.size, 0, none⟩ = some (.int .i64 (kind2 : Int)) := by rw [hbk.cell]; rfl
        have HR7 := Lib.hid (Blk.grown7 (Blk.past hr1 (.cells #[.int .i64 (kind2 : Int), .string ⟨text2.toArray⟩, .int .i64 (at0 : Int)] 36)) hgr (fun e => by have := HO.out _ e.symm; omega))
        obtain ⟨A2, cap2, rfl, -, -⟩ := hbuf'.src (tokCells_one _)
        clear hrun hbuf' hgr hbuf1 hr1 hg1 hpt hbuf0 hol hbk
        go_wp2_with (at_builtin; refine wpList_append_run _ rfl (.tmp 24) (.tmp 26) _ _ rfl _ _ rfl rfl _ _ HR.out ?_)
        go_roundw
        case rel =>
          refine ⟨j, _, A2, cap2, by simp only [List.length_append, List.length_singleton], R1.out, ?_, ?_, ?_⟩
          · rw [HG.out]; exact HR7.out
          · rw [HG.out]; exact HF.out.1
          · rw [HG.out]; exact HF.out.2
        case measure =>
          rw [CUR.out, RdSt.at_cur HR7.out]; omega
end Go.Proofs.YtkifhgnoadmfkaaDoor
namespace Go.Proofs.YtkifhgnoadmfkaaDoor
open Go.RowKit

theorem tokens_any (P : Option Addr) (l : List UInt8) (c : Nat) (w : World) (hy : Bys w w.heap.size P l) (hl : l.length ≤ 1048575) (hlc : l.length ≤ c) (hS : Std w) :
    Calls Tryd.prog 11 #[.slice P l.length c] w (TkPost w (tokens l)) :=
  tokens_walk P l c w hl (fun k W hr hk hb => next_any w.heap.size P l c k W hr hk (hy.below hb) (by omega) hlc (hS.below hb))
end Go.Proofs.YtkifhgnoadmfkaaDoor
namespace Go.Proofs.YtkifhgnoadmfkaaDoor
open Go.RowKit

def tokV (t : Tok) : Value := .agg #[.int .i64 t.kind, .string ⟨t.text.toArray⟩, .int .i64 t.at0]
set_option maxRecDepth 100000 in
theorem tokSame_any (t : Tok) (w : World) :
    Calls Tryd.prog 26 #[tokV t, tokV t] w fun e w' => e = .returned (.bool true) ∧ Below w.heap.size w w' := by
  unfold tokV
  generalize (t.kind : Int) = a
  generalize (⟨t.text.toArray⟩ : ByteArray) = b
  generalize (t.at0 : Int) = c
  go_enter Tryd.func26, Tryd.ntmps26
  go_wp2_with fail
  go_ret
  exact ⟨rfl, ((Below.refl _ _).alloc (Nat.le_refl _) _).alloc (by rw [World.size_alloc]; omega) _⟩

/-- A slice of tokens, read. -/
def TkIn (W : World) (B : Nat) (A : Option Addr) (ts : List Tok) : Prop := ∀ i (h : i < ts.length), ∃ g off, A = some ⟨g, off, none⟩ ∧ g < B ∧
  W.cell? ⟨g, off + i * 3, none⟩ = some (.int .i64 ts[i].kind) ∧ W.cell? ⟨g, off + i * 3 + 1, none⟩ = some (.string ⟨ts[i].text.toArray⟩) ∧ W.cell? ⟨g, off + i * 3 + 2, none⟩ = some (.int .i64 ts[i].at0)
theorem Buf.toks {W : World} {b : Nat} {v : Value} {ts : List Tok} (h : Buf W b 3 v ts.length (tokCells ts)) : ∃ A cap, v = .slice A ts.length cap ∧ ts.length ≤ cap ∧ TkIn W W.heap.size A ts := by
  rcases h.2 with ⟨rfl, h0⟩ | ⟨g, off, cap, rfl, hg, hlt, hnc, hc, hf⟩
  · exact ⟨none, 0, by rw [h0], by omega, fun i hi => absurd hi (by omega)⟩
  · refine ⟨_, cap, rfl, hnc, fun i hi => ⟨g, off, rfl, hlt, ?_⟩⟩
    obtain ⟨h1, h2, h3⟩ := tokCells_at hi
    exact ⟨by rw [Nat.mul_comm]; exact hc _ _ h1, by rw [Nat.add_assoc, Nat.mul_comm]; exact hc _ _ h2, by rw [Nat.add_assoc, Nat.mul_comm]; exact hc _ _ h3⟩
theorem TkIn.below {W W' : World} {B : Nat} {A : Option Addr} {ts : List Tok} (h : TkIn W B A ts) (hb : Below B W W') : TkIn W' B A ts := fun i hi => by
  obtain ⟨g, off, e, hg, h1, h2, h3⟩ := h i hi
  exact ⟨g, off, e, hg, (hb.cell (p := ⟨g, off + i * 3, none⟩) hg).trans h1, (hb.cell (p := ⟨g, off + i * 3 + 1, none⟩) hg).trans h2, (hb.cell (p := ⟨g, off + i * 3 + 2, none⟩) hg).trans h3⟩
theorem TkIn.more {W : World} {B B' : Nat} {A : Option Addr} {ts : List Tok} (h : TkIn W B A ts) (hB : B ≤ B') : TkIn W B' A ts := fun i hi => by
  obtain ⟨g, off, e, hg, h1⟩ := h i hi
  exact ⟨g, off, e, Nat.lt_of_lt_of_le hg hB, h1⟩

set_option maxRecDepth 100000 in
set_option maxHeartbeats 1600000 in
theorem tokEqual_any (A1 A2 : Option Addr) (c1 c2 : Nat) (ts : List Tok) (w : World) (h1 : TkIn w w.heap.size A1 ts) (h2 : TkIn w w.heap.size A2 ts) (hl : ts.length ≤ 1048576) :
    Calls Tryd.prog 25 #[.slice A1 ts.length c1, .slice A2 ts.length c2, .func (.func 26) #[] #[]] w fun e w' => e = .returned (.bool true) ∧ Below w.heap.size w w' := by
  have H1 := Lib.hid h1
  have H2 := Lib.hid h2
  have HS := Lib.hid tokSame_any
  obtain ⟨n, hn⟩ : ∃ n, ts.length = n := ⟨_, rfl⟩
  have HN := Lib.hid hn
  rw [hn] at hl ⊢
  clear hn h1 h2
  go_enter Tryd.func25, Tryd.ntmps25
  go_wp2_with fail
  go_loopw [17] (fun i wr => ∃ k : Nat, k ≤ n ∧ i = .int .i64 k ∧ Below w.heap.size w wr) (fun i _ => n - (intOf i).toNat)
  case atStart => exact ⟨0, Nat.zero_le _, rfl, Below.refl _ _⟩
  case round =>
    obtain ⟨k, hk, rfl, hw⟩ := hrel
    have HW := Lib.hid hw
    by_cases hkn : k < n
    · obtain ⟨g1, o1, rfl, hg1, a1, a2, a3⟩ := H1.out.below hw k (by rw [HN.out]; exact hkn)
      obtain ⟨g2, o2, rfl, hg2, b1, b2, b3⟩ := H2.out.below hw k (by rw [HN.out]; exact hkn)
      have hsz := hw.size
      have hg1' : g1 < wr.heap.size := by omega
      have hg2' : g2 < wr.heap.size := by omega
      obtain ⟨t, ht⟩ : ∃ t, ts[k]'(by rw [HN.out]; exact hkn) = t := ⟨_, rfl⟩
      rw [ht] at a1 a2 a3 b1 b2 b3
      clear ht hw
      have hk0 : (0 : Int) ≤ k := by omega
      have hk1 : (k : Int) < n := by omega
      have HST := Lib.hid (HS.out t)
      unfold tokV at HST
      generalize (t.kind : Int) = x at *
      generalize (⟨t.text.toArray⟩ : ByteArray) = y at *
      generalize (t.at0 : Int) = z at *
      go_wp2_with fail
      refine (HST.out _).mono ?_
      rintro e w1 ⟨rfl, hb⟩
      have HB := Lib.hid (((HW.out.alloc hsz _).alloc (by rw [World.size_alloc]; omega) _).trans (hb.mono (by simp only [World.size_alloc]; omega)))
      clear hb
      go_wp2_with fail
      go_roundw
      case rel => exact ⟨k + 1, by omega, by go_num, HB.out⟩
      case measure => simp [intOf]; omega
    · go_wp2_with fail
      go_ret
      exact ⟨rfl, HW.out⟩

set_option maxRecDepth 100000 in
theorem same06_any (A1 A2 : Option Addr) (c1 c2 : Nat) (ts : List Tok) (w : World) (h1 : TkIn w w.heap.size A1 ts) (h2 : TkIn w w.heap.size A2 ts) (hl : ts.length ≤ 1048576) :
    Calls Tryd.prog 13 #[.slice A1 ts.length c1, .slice A2 ts.length c2] w fun e w' => e = .returned (.bool true) ∧ Below w.heap.size w w' := by
  have H := Lib.hid (tokEqual_any A1 A2 c1 c2 ts w h1 h2 hl)
  generalize ts.length = n at *
  clear h1 h2
  go_enter Tryd.func13, Tryd.ntmps13
  go_wp2_with fail
  refine H.out.mono ?_
  rintro e w1 ⟨rfl, hb⟩
  have HB := Lib.hid hb
  clear hb
  go_wp2_with fail
  go_ret
  exact ⟨rfl, HB.out⟩
end Go.Proofs.YtkifhgnoadmfkaaDoor
namespace Go.Proofs.YtkifhgnoadmfkaaDoor
open Go.RowKit

def exToks : List Tok := [⟨4, [97], 0⟩, ⟨1, [], 1⟩, ⟨4, [70, 69, 84, 67, 72], 2⟩, ⟨1, [], 7⟩, ⟨4, [49], 8⟩, ⟨1, [], 9⟩, ⟨2, [], 10⟩, ⟨4, [85, 73, 68], 11⟩, ⟨3, [], 14⟩, ⟨0, [], 15⟩]
theorem tok_ex : tokens [97, 32, 70, 69, 84, 67, 72, 32, 49, 32, 40, 85, 73, 68, 41] = .inl exToks := by kernel_rfl
theorem tag_ex : tagT [97, 32, 70, 69, 84, 67, 72, 32, 49] tgB = some ([97], 2) := by decide +kernel

set_option maxRecDepth 100000 in
set_option maxHeartbeats 1600000 in
theorem alive06_walk (w : World) (hS : Std w) : Calls Tryd.prog 8 #[] w fun e w' => e = .returned (.bool true) ∧ Below w.heap.size w w' := by
  have kc := fun (w : World) (C : Array Value) (n c : Nat) => Lib.run_convert_bytes_const (P := Tryd.prog) w 22 5 C n c Tryd.underlying22 Tryd.underlying5
  have H1 := Lib.hid (fun (w1 : World) (hb : Below w.heap.size w w1) => tokens_any (some ⟨w1.heap.size, 0, none⟩) [97, 32, 70, 69, 84, 67, 72, 32, 49, 32, 40, 85, 73, 68, 41] 15 _ (const_bys w1 _ (15, 16)) (by decide) (by decide) (hS.below (hb.alloc hb.size _)))
  have H2 := Lib.hid (fun (w1 : World) => tokTag_any (some ⟨w1.heap.size, 0, none⟩) 9 [97, 32, 70, 69, 84, 67, 72, 32, 49] _ (const_bys w1 _ (9, 10)) (fun h => by cases h) (by decide) (by decide))
  rw [tok_ex] at H1
  rw [tag_ex] at H2
  have hb := Below.refl w.heap.size w
  generalize hB : w.heap.size = B at hb H1 ⊢
  have hsz : B ≤ w.heap.size := by omega
  clear hS hB
  go_enter Tryd.func8, Tryd.ntmps8
  go_wp2_with fail
  refine (H1.out _ hb).mono ?_
  rintro e w1 ⟨v, rfl, hbuf, hb1⟩
  obtain ⟨A, cap, rfl, hcap, ht⟩ := hbuf.toks
  have hc1 : Below B w w1 := (hb.alloc (by omega) _).trans (hb1.mono (by rw [World.size_alloc]; omega))
  have hs1 := hc1.size
  have HT := Lib.hid ht
  clear hb1 hb hbuf ht hcap
  rw [show atT (.inl exToks) = -1 from rfl, show (lstT (Sum.inl exToks)).length = 10 from rfl]
  go_wp2_with fail
  refine (H2.out _).mono ?_
  rintro e w2 ⟨rfl, hb2⟩
  have hc2 : Below B w w2 := (hc1.alloc (by omega) _).trans (hb2.mono (by rw [World.size_alloc]; omega))
  have ht2 := HT.out.below (((Below.refl w1.heap.size w1).alloc (Nat.le_refl _) _).trans (hb2.mono (by rw [World.size_alloc]; omega)))
  have HC := Lib.hid hc2
  obtain ⟨g, o, rfl, hg, -, a2, -⟩ := ht2 2 (by decide)
  obtain ⟨g', o', e, hg', b1, -, -⟩ := ht2 8 (by decide)
  injection e with e
  injection e with e1 e2
  subst e1 e2
  change w2.cell? _ = some (.string ⟨#[70, 69, 84, 67, 72]⟩) at a2
  change w2.cell? _ = some (.int .i64 3) at b1
  clear hc2 ht2 hb2 hc1 hg hg'
  rw [tagV_some, show ofL [97] = ⟨#[97]⟩ from rfl, show ((2 : Nat) : Int) = 2 from rfl]
  go_wp2_with fail
  go_ret
  exact ⟨rfl, HC.out⟩
end Go.Proofs.YtkifhgnoadmfkaaDoor
namespace Go.Proofs.YtkifhgnoadmfkaaDoor
open Go.RowKit

theorem buf_app {w0 w : World} {out : Value} {m : List UInt8} (h2 : Buf w w0.heap.size 1 out m.length (Lib.byteCells m)) (h3 : Below w0.heap.size w0 w) (y : UInt8) (hm : m.length ≤ 1048576) :
    ∃ v' w', (Builtin.append_ #[22, 22] 22 #[out, .slice (some ⟨w.heap.size, 0, none⟩) 1 1]).run Tryd.prog (w.alloc (.cells #[.int .u8 (y.toNat : Int)] 5)) = .ok v' w' ∧ Buf w' w0.heap.size 1 v' (m ++ [y]).length (Lib.byteCells (m ++ [y])) ∧ Below w0.heap.size w0 w' := by
  have hb0 : Below w.heap.size w (w.alloc (.cells #[.int .u8 (y.toNat : Int)] 5)) := (Below.refl _ _).alloc (Nat.le_refl _) _
  have hh := heap_alloc_new w (.cells #[.int .u8 (y.toNat : Int)] 5)
  obtain ⟨i0, hi, hz0, hz1, hz2⟩ := info_parts infoU8
  have hsrc : Src (w.alloc (.cells #[.int .u8 (y.toNat : Int)] 5)) 1 (some ⟨w.heap.size, 0, none⟩) 1 (Lib.byteCells [y]) :=
    ⟨rfl, Lib.byteCells_one [y], fun _ => ⟨_, rfl, fun j u hj => by
      have hj' : j < 1 := by have := (List.getElem?_eq_some_iff.1 hj).1; simpa [Lib.byteCells] using this
      obtain rfl : j = 0 := by omega
      rw [Go.WideShapes.add_plain]
      simp only [World.cell?, hh]
      exact hj⟩⟩
  have h2' := h2.below hb0 (Nat.le_refl _)
  obtain ⟨v', w', hrun, hbuf, hgr, hown⟩ := run_append_buf (P := Tryd.prog) _ 22 22 5 i0 (.int .u8 0) 1 1 Tryd.underlying22 hi hz0 hz1 hz2 rfl (by decide) w0.heap.size out m.length _ h2' (some ⟨w.heap.size, 0, none⟩) 1 1 _ hsrc (by unfold maxLen; omega) (by omega) (by have := h3.size; have := hb0.size; omega)
  rw [← byteCells_app] at hbuf
  have hs := h3.size
  have hs0 := hb0.size
  refine ⟨v', w', hrun, by rw [show (m ++ [y]).length = m.length + 1 by simp]; exact hbuf, (h3.trans (hb0.mono hs)).grown hgr (by omega) (fun j hj => ?_)⟩
  rcases h2.2 with ⟨rfl, _⟩ | ⟨b, off, cap, rfl, hb, _⟩
  · simp [Value.ownBlock] at hj
  · simp only [Value.ownBlock, Option.some.injEq] at hj; omega

set_option maxRecDepth 100000 in
set_option maxHeartbeats 3200000 in
theorem rScanQuoted_any (P : Option Addr) (l : List UInt8) (c : Nat) (a : Int) (w : World) (hb : Bys w w.heap.size P l) (hl : l.length ≤ 1048576) :
    Calls Tryd.prog 45 #[.slice P l.length c, .int .i64 a] w (RetS w (scanQ l a)) := by
  by_cases ha : a < 0 ∨ (l.length : Int) ≤ a
  · rw [scanQ_no l a ha]
    generalize l.length = n at *
    clear hb hl
    by_cases ha0 : a < 0
    all_goals
      first
        | (have ha1 : ¬ a < 0 := ha0; have ha2 : (n : Int) ≤ a := by omega)
        | skip
      clear ha
      go_enter Tryd.func45, Tryd.ntmps45
      go_wp2_with fail
      go_ret3
      exact RetS.none (Below.refl _ _)
  · obtain ⟨k, rfl⟩ := Int.eq_ofNat_of_zero_le (show 0 ≤ a by omega)
    have hk : k < l.length := by omega
    obtain ⟨p, o, rfl, hp, hc⟩ := hb (by omega)
    have hcw : ∀ w', Below w.heap.size w w' → ∀ i (hi : i < l.length), w'.cell? ⟨p, o + i, none⟩ = some (.int .u8 (l[i].toNat : Int)) := fun w' hw i hi => by rw [hw.cell (p := ⟨p, o + i, none⟩) hp]; exact hc i hi
    have HCW := Lib.hid hcw
    have ck := hcw w (Below.refl _ _) k hk
    have hk0 : (0 : Int) ≤ k := by omega
    have hk1 : (k : Int) < l.length := by omega
    have hk2 : (l.length : Int) ≤ 1048576 := by omega
    by_cases e34 : l[k] = 34
    · have HO := Lib.hid (scanQ_at l k hk e34)
      rw [e34] at ck
      have ck' : w.cell? ⟨p, o + k, none⟩ = some (.int .u8 34) := ck
      generalize scanQ l k = r at HO ⊢
      obtain ⟨n, hn⟩ : ∃ n, n = l.length := ⟨_, rfl⟩
      have HN := Lib.hid hn
      rw [← hn] at hk hk1 hk2 ⊢
      have hkd0 : decide ((k : Int) < 0) = false := decide_eq_false (by omega)
      have hkd1 : decide ((n : Int) ≤ (k : Int)) = false := decide_eq_false (by omega)
      have hkd2 : decide (n ≤ k) = false := decide_eq_false (by omega)
      clear hcw hc hb ha e34 ck hn hl
      go_enter Tryd.func45, Tryd.ntmps45
      go_wp2_with fail
      go_loopw [7, 8] (fun out i wr => ∃ (j : Nat) (m : List UInt8), j ≤ n ∧ m.length ≤ j ∧ i = .int .i64 (j : Int) ∧ Buf wr w.heap.size 1 out m.length (Lib.byteCells m) ∧ Below w.heap.size w wr ∧ SqAt l m j r) (fun _ i _ => n - (intOf i).toNat)
      case atStart => exact ⟨k + 1, [], by omega, by simp, by go_num, Buf.nil _ _ _, Below.refl _ _, HO.out⟩
      case round =>
        obtain ⟨j, m, hj, hm, rfl, hbuf, hbw, hsq⟩ := hrel
        have HBUF := Lib.hid hbuf
        have HBW := Lib.hid hbw
        have HSQJ := Lib.hid hsq
        have HMJ := Lib.hid hm
        clear hsq hbuf hm ck' hk hk0 hk1
        have hj0 : (0 : Int) ≤ j := by omega
        have hjb : (j : Int) ≤ n := by omega
        by_cases hjl : j < l.length
        · have hjn : (j : Int) < n := by have := HN.out; omega
          have cj := HCW.out wr hbw j hjl
          clear hbw
          obtain ⟨x, hx⟩ : ∃ x, l[j] = x := ⟨_, rfl⟩
          have HX := Lib.hid hx
          rw [hx] at cj
          have hu := x.toNat_lt
          clear hx
          by_cases q34 : x = 34
          · have R := Lib.hid (HSQJ.out.mark hjl (by rw [HX.out, q34]))
            have e1 : (x.toNat : Int) = 34 := by rw [q34]; rfl
            rw [e1] at cj
            clear e1 q34 hu
            go_wp2_with fail
            go_ret3
            rw [R.out]
            exact RetS.some HBUF.out HBW.out
          · have e1 : ((x.toNat : Int) != 34) = true := by
              have := u8_ne (v := 34) (by decide) q34
              simpa [bne] using this
            by_cases q92 : x = 92
            · have e2 : (x.toNat : Int) = 92 := by rw [q92]; rfl
              rw [e2] at cj
              clear e1 hu
              by_cases hj1 : j + 1 < l.length
              · have hjn1 : (j : Int) + 1 < n := by have := HN.out; omega
                have cd := HCW.out wr HBW.out (j + 1) hj1
                have cd' : wr.cell? ⟨p, o + j + 1, none⟩ = _ := cd
                obtain ⟨d, hd⟩ : ∃ d, l[j + 1] = d := ⟨_, rfl⟩
                have HD := Lib.hid hd
                rw [hd] at cd cd'
                have hdu := d.toNat_lt
                clear hd
                by_cases hdd : d = 34 ∨ d = 92
                · have HSQ0 := HSQJ.out.esc hjl (by rw [HX.out, q92]) hj1 (by rw [HD.out]; exact hdd)
                  rw [HD.out] at HSQ0
                  have HSQ := Lib.hid HSQ0
                  have HTX : Hid (Calls Tryd.prog 64 #[.int .u8 (d.toNat : Int)] wr fun e w' => e = .returned (.bool true) ∧ w' = wr) := Lib.hid (rText_val (d.toNat : Int) true wr (by rcases hdd with rfl | rfl <;> decide) (by omega) (by omega))
                  clear HSQ0 q92 q34
                  have hdv : (((d.toNat : Int) != 34) = false ∧ (d.toNat : Int) = 34) ∨ (((d.toNat : Int) != 34) = true ∧ ((d.toNat : Int) != 92) = false) := by rcases hdd with rfl | rfl <;> decide
                  clear hdd
                  rcases hdv with ⟨b1, -⟩ | ⟨b1, b2⟩
                  all_goals
                    go_wp2_with fail
                    refine HTX.out.mono ?_
                    rintro e w3 ⟨rfl, rfl⟩
                    have hcw3 : True := trivial
                    obtain ⟨v4, w4, hrun, hbuf4, hbw4⟩ := buf_app HBUF.out HBW.out d (by have := HMJ.out; omega)
                    have HR := Lib.hid hrun
                    have HB4 := Lib.hid (And.intro hbuf4 hbw4)
                    clear hrun hbuf4 hbw4
                    go_wp2_with (at_builtin; refine wpList_append_run _ rfl (.tmp 68) (.tmp 73) _ _ rfl _ _ rfl rfl _ _ HR.out ?_)
                    go_roundw
                    case rel => exact ⟨(j + 2), m ++ [d], by omega, by rw [List.length_append]; show m.length + 1 ≤ _; have := HMJ.out; omega, by go_num, HB4.out.1, HB4.out.2, HSQ.out⟩
                    case measure => simp [intOf]; omega
                · have R := Lib.hid (HSQJ.out.escBad hjl (by rw [HX.out, q92]) hj1 (by rw [HD.out]; exact hdd))
                  have b1 : ((d.toNat : Int) != 34) = true := by
                    have := u8_ne (v := 34) (by decide) (fun e => hdd (.inl e))
                    simpa [bne] using this
                  have b2 : ((d.toNat : Int) != 92) = true := by
                    have := u8_ne (v := 92) (by decide) (fun e => hdd (.inr e))
                    simpa [bne] using this
                  clear q92 q34 hdd
                  go_wp2_with fail
                  go_ret3
                  rw [R.out]
                  exact RetS.none HBW.out
              · have R := Lib.hid (HSQJ.out.escOut hjl (by rw [HX.out, q92]) (by omega))
                have hjn1 : (n : Int) ≤ (j : Int) + 1 := by have := HN.out; omega
                clear q92 q34
                go_wp2_with fail
                go_ret3
                rw [R.out]
                exact RetS.none HBW.out
            · have e2 : ((x.toNat : Int) == 92) = false := u8_ne (v := 92) (by decide) q92
              cases htx : textB (x.toNat : Int) with
              | false =>
                have R := Lib.hid (HSQJ.out.bad hjl (by rw [HX.out]; exact q34) (by rw [HX.out]; exact q92) (by rw [HX.out]; exact htx))
                have HTX := Lib.hid (rText_val (x.toNat : Int) false wr htx (by omega) (by omega))
                clear q92 q34 htx
                go_wp2_with fail
                refine HTX.out.mono ?_
                rintro e w3 ⟨rfl, rfl⟩
                go_wp2_with fail
                go_ret3
                rw [R.out]
                exact RetS.none HBW.out
              | true =>
                have HSQ0 := HSQJ.out.next hjl (by rw [HX.out]; exact q34) (by rw [HX.out]; exact q92) (by rw [HX.out]; exact htx)
                rw [HX.out] at HSQ0
                have HSQ := Lib.hid HSQ0
                have HTX := Lib.hid (rText_val (x.toNat : Int) true wr htx (by omega) (by omega))
                clear HSQ0 q92 q34 htx
                go_wp2_with fail
                refine HTX.out.mono ?_
                rintro e w3 ⟨rfl, rfl⟩
                have hcw3 : True := trivial
                obtain ⟨v4, w4, hrun, hbuf4, hbw4⟩ := buf_app HBUF.out HBW.out x (by have := HMJ.out; omega)
                have HR := Lib.hid hrun
                have HB4 := Lib.hid (And.intro hbuf4 hbw4)
                clear hrun hbuf4 hbw4
                go_wp2_with (at_builtin; refine wpList_append_run _ rfl (.tmp 68) (.tmp 73) _ _ rfl _ _ rfl rfl _ _ HR.out ?_)
                go_roundw
                case rel => exact ⟨(j + 1), m ++ [x], by omega, by rw [List.length_append]; show m.length + 1 ≤ _; have := HMJ.out; omega, by go_num, HB4.out.1, HB4.out.2, HSQ.out⟩
                case measure => simp [intOf]; omega
        · have R := Lib.hid (HSQJ.out.out (by omega))
          have hjn : (n : Int) ≤ j := by have := HN.out; omega
          clear hbw
          go_wp2_with fail
          go_ret3
          rw [R.out]
          exact RetS.none HBW.out
    · rw [scanQ_bad l k hk e34]
      have e1 : ((l[k].toNat : Int) != 34) = true := by
        have := u8_ne (v := 34) (by decide) e34
        simpa [bne] using this
      generalize (l[k].toNat : Int) = x at ck e1
      clear hcw hc hb ha e34 HCW
      generalize l.length = n at *
      go_enter Tryd.func45, Tryd.ntmps45
      go_wp2_with fail
      go_ret3
      exact RetS.none (Below.refl _ _)
end Go.Proofs.YtkifhgnoadmfkaaDoor
namespace Go.Proofs.YtkifhgnoadmfkaaDoor
open Go.RowKit

set_option maxRecDepth 100000 in
set_option maxHeartbeats 3200000 in
theorem rScanLiteral_any (P : Option Addr) (l : List UInt8) (c : Nat) (a : Int) (w : World) (hb : Bys w w.heap.size P l) (hl : l.length ≤ 1048576) (hlc : l.length ≤ c) :
    Calls Tryd.prog 46 #[.slice P l.length c, .int .i64 a] w (RetS w (scanL l a)) := by
  by_cases ha : a < 0 ∨ (l.length : Int) ≤ a
  · rw [scanL_no l a ha]
    generalize l.length = n at *
    clear hb hl hlc
    by_cases ha0 : a < 0
    all_goals
      first
        | (have ha1 : ¬ a < 0 := ha0; have ha2 : (n : Int) ≤ a := by omega)
        | skip
      clear ha
      go_enter Tryd.func46, Tryd.ntmps46
      go_wp2_with fail
      go_ret3
      exact RetS.none (Below.refl _ _)
  · obtain ⟨k, rfl⟩ := Int.eq_ofNat_of_zero_le (show 0 ≤ a by omega)
    have hk : k < l.length := by omega
    obtain ⟨p, o, rfl, hp, hc⟩ := hb (by omega)
    have HBY := Lib.hid hb
    have HC := Lib.hid hc
    have ck := hc k hk
    have hk0 : (0 : Int) ≤ k := by omega
    have hk1 : (k : Int) < l.length := by omega
    have hk2 : (l.length : Int) ≤ 1048576 := by omega
    by_cases e123 : l[k] = 123
    · rw [e123] at ck
      have ck' : w.cell? ⟨p, o + k, none⟩ = some (.int .u8 123) := ck
      have E := Lib.hid e123
      have HK := Lib.hid hk
      obtain ⟨r, hr⟩ : ∃ r, scanL l k = r := ⟨_, rfl⟩
      have HR := Lib.hid hr
      rw [hr]
      obtain ⟨n, hn⟩ : ∃ n, n = l.length := ⟨_, rfl⟩
      have HN := Lib.hid hn
      rw [← hn] at hk hk1 hk2 hlc ⊢
      have hkd0 : decide ((k : Int) < 0) = false := decide_eq_false (by omega)
      have hkd1 : decide ((n : Int) ≤ (k : Int)) = false := decide_eq_false (by omega)
      have hkd2 : decide (n ≤ k) = false := decide_eq_false (by omega)
      clear hc hb ha e123 ck hn hl hr
      go_enter Tryd.func46, Tryd.ntmps46
      go_wp2_with fail
      go_loop [7] (fun v => ∃ i : Nat, k + 1 ≤ i ∧ i ≤ n ∧ i ≤ k + 13 ∧ v = .int .i64 (i : Int) ∧ NoMark l k i) (fun v => n - (intOf v).toNat)
      case atStart => exact ⟨k + 1, Nat.le_refl _, by omega, by omega, by go_num, fun j hj h1 h2 => absurd h2 (by omega)⟩
      case round =>
        obtain ⟨i, hi1, hi2, hi3, rfl, hnm⟩ := hrel
        have NM := Lib.hid hnm
        clear hnm
        by_cases hin : i < n
        · have hil : i < l.length := by have := HN.out; omega
          have ci := HC.out i hil
          have hi0 : (0 : Int) ≤ i := by omega
          have hi4 : (i : Int) < n := by omega
          by_cases e125 : l[i] = 125
          · obtain ⟨j, hj⟩ : ∃ j, i = k + 1 + j := ⟨i - (k + 1), by omega⟩
            have hF : firstIx 125 (l.drop (k + 1)) = some (i - (k + 1)) := by
              subst hj
              rw [show k + 1 + j - (k + 1) = j by omega]
              exact NM.out.first hil e125
            rw [e125] at ci
            have ci' : w.cell? ⟨p, o + i, none⟩ = some (.int .u8 125) := ci
            have hby := (HBY.out.from (k + 1)).upto (i - (k + 1))
            have hlen : ((l.drop (k + 1)).take (i - (k + 1))).length = i - (k + 1) := by rw [List.length_take, List.length_drop]; omega
            have hcv := fun c => conv_bys (P := Tryd.prog) hby c Tryd.underlying22 Tryd.underlying5 Tryd.underlying9
            rw [hlen, Option.map_some, Go.WideShapes.add_plain] at hcv
            have HCV := Lib.hid hcv
            have HNU := Lib.hid (rNumber_any (ofL ((l.drop (k + 1)).take (i - (k + 1)))) w (by show (List.toArray _).size ≤ _; rw [List.size_toArray, hlen]; unfold maxLen; omega))
            rw [ofL_data] at HNU
            have hik : (k : Int) + 1 ≤ i := by omega
            have hic : (i : Int) ≤ c := by omega
            have hkc : ¬ c = k + 1 := by omega
            clear hcv hby e125 ci hj hlen
            cases hnb : numB ((l.drop (k + 1)).take (i - (k + 1))) with
            | none =>
              have R : Hid (r = none) := Lib.hid (by rw [← HR.out]; exact scanL_nonum HK.out E.out hF hnb)
              simp only [hnb, numV_none] at HNU
              clear hnb hF
              go_wp2_with fail
              rw [HCV.out]
              simp only [Result.andThen]
              rw [Oper.upon_value]
              go_wp2_with fail
              refine HNU.out.mono ?_
              rintro e w2 ⟨rfl, rfl⟩
              go_wp2_with fail
              go_ret3
              rw [R.out]
              exact RetS.none (Below.refl _ _)
            | some v =>
              have hvu := numB_le hnb
              have R0 : Hid (r = if v ≤ 65536 ∧ l[i + 1]? = some 13 ∧ l[i + 2]? = some 10 ∧ i + 3 + v ≤ l.length then some ((l.drop (i + 3)).take v, i + 3 + v) else none) := Lib.hid (by
                rw [← HR.out, scanL_num HK.out E.out hF hnb]
                rw [show k + 1 + (i - (k + 1)) = i by omega])
              simp only [hnb, numV_some] at HNU
              clear hnb hF
              by_cases hv : v ≤ 65536
              · by_cases h3 : i + 3 ≤ n
                · have h3l : i + 2 < l.length := by have := HN.out; omega
                  have d1 := HC.out (i + 1) (by omega)
                  have d2 := HC.out (i + 2) h3l
                  have hG1 : l[i + 1]? = some (l[i + 1]'(by omega)) := List.getElem?_eq_getElem _
                  have hG2 : l[i + 2]? = some (l[i + 2]'h3l) := List.getElem?_eq_getElem _
                  rw [hG1, hG2] at R0
                  obtain ⟨x1, hx1⟩ : ∃ x, l[i + 1]'(by omega) = x := ⟨_, rfl⟩
                  obtain ⟨x2, hx2⟩ : ∃ x, l[i + 2]'h3l = x := ⟨_, rfl⟩
                  rw [hx1] at d1 R0
                  rw [hx2] at d2 R0
                  have d1' : w.cell? ⟨p, o + i + 1, none⟩ = _ := d1
                  have d2' : w.cell? ⟨p, o + i + 2, none⟩ = _ := d2
                  clear hG1 hG2 hx1 hx2
                  by_cases q1 : x1 = 13
                  · have q1' : (x1.toNat : Int) = 13 := by rw [q1]; rfl
                    rw [q1'] at d1 d1'
                    by_cases q2 : x2 = 10
                    · have q2' : (x2.toNat : Int) = 10 := by rw [q2]; rfl
                      rw [q2'] at d2 d2'
                      by_cases hvn : i + 3 + v ≤ n
                      · have R : Hid (r = some ((l.drop (i + 3)).take v, i + 3 + v)) := Lib.hid (by rw [R0.out, if_pos ⟨hv, by rw [q1], by rw [q2], by rw [← HN.out]; exact hvn⟩])
                        have hby2 := (HBY.out.from_if (i + 3) c (by have := HN.out; omega)).upto v
                        have hlen2 : ((l.drop (i + 3)).take v).length = v := by rw [List.length_take, List.length_drop]; have := HN.out; omega
                        obtain ⟨p4, c4, w4, hrun, -, hbuf, hbw⟩ := own_copy w _ (c - (i + 3)) _ hby2 (by rw [hlen2]; omega)
                        rw [hlen2, Option.map_some, Go.WideShapes.add_plain] at hrun
                        rw [hlen2] at hbuf
                        have HB := Lib.hid (And.intro hbuf hbw)
                        have HL2 := Lib.hid hlen2
                        have hvn2 : ¬ ((n : Int) - (i + 3) < v) := by omega
                        have hv2 : (v : Int) ≤ 65536 := by omega
                        have hic3 : (i : Int) + 3 + v ≤ c := by omega
                        have hin3 : (i : Int) + 3 ≤ n := by omega
                        clear q1 q2 q1' q2' R0 hbuf hbw hlen2 hby2
                        by_cases hcf : c = i + 3
                        · subst hcf
                          rw [if_pos rfl] at hrun
                          have hv0 : (v : Int) ≤ 0 := by omega
                          have hvv : i + 3 + v - (i + 3) = v := by omega
                          have hcc : i + 3 - (i + 3) = 0 := by omega
                          have HR1 : Hid ((Builtin.append_ #[22, 22] 22 #[.slice (some ⟨w.heap.size, 0, none⟩) 0 0, .slice (some ⟨p, o, none⟩) (i + 3 + v - (i + 3)) (i + 3 - (i + 3))]).run Tryd.prog (w.alloc (.cells #[] 5)) = .ok (.slice p4 v c4) w4) := Lib.hid (by rw [hvv]; exact hrun)
                          have HR2 : Hid ((Builtin.append_ #[22, 22] 22 #[.slice (some ⟨w.heap.size, 0, none⟩) 0 0, .slice (some ⟨p, o, none⟩) (i + 3 + v - (i + 3)) 0]).run Tryd.prog (w.alloc (.cells #[] 5)) = .ok (.slice p4 v c4) w4) := Lib.hid (by rw [hvv]; rw [hcc] at hrun; exact hrun)
                          have HR3 : Hid ((Builtin.append_ #[22, 22] 22 #[.slice (some ⟨w.heap.size, 0, none⟩) 0 0, .slice (some ⟨p, o, none⟩) v 0]).run Tryd.prog (w.alloc (.cells #[] 5)) = .ok (.slice p4 v c4) w4) := Lib.hid (by rw [hcc] at hrun; exact hrun)
                          clear hrun hvv hcc
                          go_wp2_with fail
                          rw [HCV.out]
                          simp only [Result.andThen]
                          rw [Oper.upon_value]
                          go_wp2_with fail
                          refine HNU.out.mono ?_
                          rintro e w2 ⟨rfl, rfl⟩
                          go_wp2_with (first
                            | (at_builtin; refine wpList_append_run _ rfl (.tmp 107) (.tmp 114) _ _ rfl _ _ rfl rfl _ _ HR1.out ?_)
                            | (at_builtin; refine wpList_append_run _ rfl (.tmp 107) (.tmp 114) _ _ rfl _ _ rfl rfl _ _ HR2.out ?_)
                            | (at_builtin; refine wpList_append_run _ rfl (.tmp 107) (.tmp 114) _ _ rfl _ _ rfl rfl _ _ HR3.out ?_))
                          go_ret3
                          rw [R.out]
                          refine RetS.some ?_ HB.out.2
                          rw [HL2.out]; exact HB.out.1
                        · have hcf2 : (i : Int) + 3 < c := by omega
                          have hvv : i + 3 + v - (i + 3) = v := by omega
                          rw [if_neg hcf] at hrun
                          have HRUN : Hid ((Builtin.append_ #[22, 22] 22 #[.slice (some ⟨w.heap.size, 0, none⟩) 0 0, .slice (some ⟨p, o + (i + 3), none⟩) (i + 3 + v - (i + 3)) (c - (i + 3))]).run Tryd.prog (w.alloc (.cells #[] 5)) = .ok (.slice p4 v c4) w4) := Lib.hid (by rw [hvv]; exact hrun)
                          clear hrun hvv
                          go_wp2_with fail
                          rw [HCV.out]
                          simp only [Result.andThen]
                          rw [Oper.upon_value]
                          go_wp2_with fail
                          refine HNU.out.mono ?_
                          rintro e w2 ⟨rfl, rfl⟩
                          go_wp2_with (at_builtin; refine wpList_append_run _ rfl (.tmp 107) (.tmp 114) _ _ rfl _ _ rfl rfl _ _ HRUN.out ?_)
                          go_ret3
                          rw [R.out]
                          refine RetS.some ?_ HB.out.2
                          rw [HL2.out]; exact HB.out.1
                      · have R : Hid (r = none) := Lib.hid (by rw [R0.out, if_neg (by rw [← HN.out]; rintro ⟨_, _, _, h⟩; exact hvn h)])
                        have hvn2 : (n : Int) - (i + 3) < v := by omega
                        have hv2 : (v : Int) ≤ 65536 := by omega
                        have hin3 : (i : Int) + 3 ≤ n := by omega
                        clear q1 q2 q1' q2' R0
                        go_wp2_with fail
                        rw [HCV.out]
                        simp only [Result.andThen]
                        rw [Oper.upon_value]
                        go_wp2_with fail
                        refine HNU.out.mono ?_
                        rintro e w2 ⟨rfl, rfl⟩
                        go_wp2_with fail
                        go_ret3
                        rw [R.out]
                        exact RetS.none (Below.refl _ _)
                    · have R : Hid (r = none) := Lib.hid (by rw [R0.out, if_neg (by rintro ⟨_, _, h, _⟩; exact q2 (by injection h))])
                      have b2 : ((x2.toNat : Int) != 10) = true := u8_bne (v := 10) (by decide) q2
                      have hv2 : (v : Int) ≤ 65536 := by omega
                      have hin3 : (i : Int) + 3 ≤ n := by omega
                      generalize (x2.toNat : Int) = z2 at d2 d2' b2
                      clear q1 q2 q1' R0
                      go_wp2_with fail
                      rw [HCV.out]
                      simp only [Result.andThen]
                      rw [Oper.upon_value]
                      go_wp2_with fail
                      refine HNU.out.mono ?_
                      rintro e w2 ⟨rfl, rfl⟩
                      go_wp2_with fail
                      go_ret3
                      rw [R.out]
                      exact RetS.none (Below.refl _ _)
                  · have R : Hid (r = none) := Lib.hid (by rw [R0.out, if_neg (by rintro ⟨_, h, _, _⟩; exact q1 (by injection h))])
                    have b1 : ((x1.toNat : Int) != 13) = true := u8_bne (v := 13) (by decide) q1
                    have hv2 : (v : Int) ≤ 65536 := by omega
                    have hin3 : (i : Int) + 3 ≤ n := by omega
                    generalize (x1.toNat : Int) = z1 at d1 d1' b1
                    clear q1 R0 d2 d2'
                    go_wp2_with fail
                    rw [HCV.out]
                    simp only [Result.andThen]
                    rw [Oper.upon_value]
                    go_wp2_with fail
                    refine HNU.out.mono ?_
                    rintro e w2 ⟨rfl, rfl⟩
                    go_wp2_with fail
                    go_ret3
                    rw [R.out]
                    exact RetS.none (Below.refl _ _)
                · have R : Hid (r = none) := Lib.hid (by rw [R0.out, if_neg (by rw [← HN.out]; rintro ⟨_, _, _, h⟩; omega)])
                  have hin3 : (n : Int) < (i : Int) + 3 := by omega
                  have hv2 : (v : Int) ≤ 65536 := by omega
                  clear R0
                  go_wp2_with fail
                  rw [HCV.out]
                  simp only [Result.andThen]
                  rw [Oper.upon_value]
                  go_wp2_with fail
                  refine HNU.out.mono ?_
                  rintro e w2 ⟨rfl, rfl⟩
                  go_wp2_with fail
                  go_ret3
                  rw [R.out]
                  exact RetS.none (Below.refl _ _)
              · have R : Hid (r = none) := Lib.hid (by rw [R0.out, if_neg (by rintro ⟨h, _, _, _⟩; exact hv h)])
                have hv2 : 65536 < (v : Int) := by omega
                clear R0
                go_wp2_with fail
                rw [HCV.out]
                simp only [Result.andThen]
                rw [Oper.upon_value]
                go_wp2_with fail
                refine HNU.out.mono ?_
                rintro e w2 ⟨rfl, rfl⟩
                go_wp2_with fail
                go_ret3
                rw [R.out]
                exact RetS.none (Below.refl _ _)
          · have e1 : ((l[i].toNat : Int) != 125) = true := u8_bne (v := 125) (by decide) e125
            have NM2 := Lib.hid (NM.out.next hil e125)
            generalize (l[i].toNat : Int) = x at ci e1
            clear e125
            by_cases h12 : i ≤ k + 12
            · have h13 : (i : Int) - k ≤ 12 := by omega
              go_wp2_with fail
              go_round
              case rel => exact ⟨i + 1, by omega, by omega, by omega, by go_num, NM2.out⟩
              case measure => simp [intOf]; omega
            · obtain rfl : i = k + 13 := by omega
              have h13 : ¬ ((k + 13 : Nat) : Int) - k ≤ 12 := by omega
              have R := Lib.hid (NM2.out.far HK.out E.out)
              go_wp2_with fail
              go_ret3
              rw [← HR.out, R.out]
              exact RetS.none (Below.refl _ _)
        · obtain rfl : i = n := by omega
          have R := Lib.hid (scanL_nomark HK.out E.out (NoMark.whole (by rw [← HN.out]; exact NM.out)))
          go_wp2_with fail
          go_ret3
          rw [← HR.out, R.out]
          exact RetS.none (Below.refl _ _)
    · rw [scanL_bad l k hk e123]
      have e1 : ((l[k].toNat : Int) != 123) = true := u8_bne (v := 123) (by decide) e123
      generalize (l[k].toNat : Int) = x at ck e1
      clear hc hb ha e123 HC HBY
      generalize l.length = n at *
      go_enter Tryd.func46, Tryd.ntmps46
      go_wp2_with fail
      go_ret3
      exact RetS.none (Below.refl _ _)
end Go.Proofs.YtkifhgnoadmfkaaDoor
