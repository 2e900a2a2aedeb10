/- The walk of the law QuoteForms. -/
import Derived.Test.YthoccgkkgnlbpaaDoorEql
namespace Go.Proofs.YthoccgkkgnlbpaaDoor
open Go.RowKit

theorem litH_len (n : Nat) (h : n ≤ 1048576) : (litH n).length ≤ 14 := by
  have := decDigits_len n (by omega)
  simp [litH]
  omega
theorem litB_len (l : List UInt8) (h : l.length ≤ 1000000) : (litB l).length ≤ l.length + 14 := by
  have := litH_len l.length (by omega)
  simp [litB]; omega
theorem quoB_len {l x : List UInt8} (h : quoB l = some x) : x.length ≤ 2 * l.length + 2 := by
  have := qesc_len l
  unfold quoB at h
  split at h
  · injection h with h; subst h; simp only [List.length_cons, List.length_append, List.length_nil]; omega
  · cases h
theorem bestB_len (l : List UInt8) (h : l.length ≤ 500000) : (bestB l).length ≤ 2 * l.length + 14 := by
  cases hq : quoB l with
  | none => rw [best_spec' hq]; have := litB_len l (by omega); omega
  | some x => rw [best_spec hq]; have := quoB_len hq; omega

/-- 'append([]byte{}, b...)'. -/
theorem own_copy (w : World) (p : Option Addr) (cap : Nat) (l : List UInt8) (h : Bys w w.heap.size p l) (hl : l.length ≤ 1048576) :
    ∃ p2 c2 w', (Builtin.append_ #[22, 22] 22 #[.slice (some ⟨w.heap.size, 0, none⟩) 0 0, .slice p l.length cap]).run Tryd.prog (w.alloc (.cells #[] 5)) = .ok (.slice p2 l.length c2) w' ∧ l.length ≤ c2 ∧ Buf w' w.heap.size 1 (.slice p2 l.length c2) l.length (Lib.byteCells l) ∧ Below w.heap.size w w' := by
  have hb0 : Below w.heap.size w (w.alloc (.cells #[] 5)) := (Below.refl _ _).alloc (Nat.le_refl _) _
  have hbuf : Buf (w.alloc (.cells #[] 5)) w.heap.size 1 (.slice (some ⟨w.heap.size, 0, none⟩) 0 0) 0 [] :=
    ⟨rfl, .inr ⟨_, 0, 0, rfl, Nat.le_refl _, by rw [World.size_alloc]; omega, Nat.le_refl _, fun j u hj => by simp at hj, fun j hj => by omega⟩⟩
  obtain ⟨i0, hi, hz0, hz1, hz2⟩ := info_parts infoU8
  obtain ⟨v2, w2, hrun2, hbuf2, hgr, _⟩ := run_append_buf (P := Tryd.prog) (w.alloc (.cells #[] 5)) 22 22 5 i0 (.int .u8 0) 1 1 Tryd.underlying22 hi hz0 hz1 hz2 rfl (by decide) w.heap.size _ 0 _ hbuf p l.length cap _ (src_bys (h.below hb0)) (by unfold maxLen; omega) (by omega) hb0.size
  rw [Nat.zero_add, List.nil_append] at hbuf2
  obtain ⟨p2, c2, rfl, hc2, _⟩ := hbuf2.bys
  exact ⟨p2, c2, w2, hrun2, hc2, hbuf2, hb0.grown hgr hb0.size (fun k hk => by simp only [Value.ownBlock, Option.some.injEq] at hk; omega)⟩

set_option maxRecDepth 100000 in
set_option maxHeartbeats 1600000 in
theorem quoteForms_walk (p : Option Addr) (cap : Nat) (l : List UInt8) (w : World) (h : Bys w w.heap.size p l) (hcap : l.length ≤ cap) (hS : Std w) :
    Calls Tryd.prog 4 #[.slice p l.length cap] w fun e w' => e = .returned (.bool true) ∧ Below w.heap.size w w' := by
  by_cases hl : l.length ≤ 1000
  · obtain ⟨p2, c2, w1, hrun, hc2, hbuf, hb1⟩ := own_copy w p cap l h (by omega)
    obtain ⟨p2', c2', e, hcc, h2⟩ := hbuf.bys
    injection e with e1 e2 e3
    subst e1 e3
    have hS1 := hS.below hb1
    have h1 : Bys w1 w1.heap.size p l := (h.below hb1).more hb1.size
    have HRUN := Lib.hid hrun
    have HB1 := Lib.hid hb1
    clear hrun hbuf hS h hcc
    have HQ := Lib.hid (quoted_any p2 c2 l w1 h2 (by omega))
    have HQ' := Lib.hid (fun (w2 : World) (hb : Below w1.heap.size w1 w2) => rQuoted_any p cap l w2 ((h1.below hb).more hb.size) (by omega) hcap)
    have HA := Lib.hid (fun (w2 : World) (hb : Below w1.heap.size w1 w2) => alive04_walk w2 (hS1.below hb))
    have HL := Lib.hid (fun (w2 : World) (hb : Below w1.heap.size w1 w2) => literal_any p2 c2 l w2 ((h2.below hb).more hb.size) (by omega) hc2 (hS1.below hb))
    have HL' := Lib.hid (fun (w2 : World) (hb : Below w1.heap.size w1 w2) => rLiteral_any p cap l w2 ((h1.below hb).more hb.size) (by omega))
    have HT := Lib.hid (fun (w2 : World) (hb : Below w1.heap.size w1 w2) => best_any p2 c2 l w2 ((h2.below hb).more hb.size) (by omega) hc2 (hS1.below hb))
    have HT' := Lib.hid (fun (w2 : World) (hb : Below w1.heap.size w1 w2) => rBest_any p cap l w2 ((h1.below hb).more hb.size) (by omega) hcap)
    have HE := Lib.hid (fun (w2 : World) (hb : Below w1.heap.size w1 w2) => equal_any p2 p c2 cap l l w2 _ _ (h2.below hb) (h1.below hb) (by omega) (by omega))
    have HLL := Lib.hid (litB_len l (by omega))
    have HBL := Lib.hid (bestB_len l (by omega))
    have hn : (l.length : Int) ≤ 1000 := by omega
    generalize litB l = x at HL HL' HLL
    generalize bestB l = y at HT HT' HBL
    simp only [decide_true] at HE
    clear h1 h2 hS1 hb1
    have HN := Lib.hid hl
    clear hl
    generalize quoB l = o at HQ HQ'
    generalize l.length = n at *
    generalize hB : w1.heap.size = B at *
    cases o
    all_goals
      simp only [quoV_none, quoV_some] at HQ HQ'
      go_enter Tryd.func4, Tryd.ntmps4
      go_wp2_with (at_builtin; refine wpList_append_run _ rfl (.tmp 12) (.tmp 13) _ _ rfl _ _ rfl rfl _ _ HRUN.out ?_)
      refine HQ.out.mono ?_
      rintro e w2 ⟨rfl, hb2⟩
      go_wp2_with fail
      refine (HQ'.out _ hb2).mono ?_
      rintro e w2 ⟨rfl, rfl⟩
      go_wp2_with fail
      refine (HA.out _ hb2).mono ?_
      rintro e w3 ⟨rfl, hb3⟩
      have hb4 : Below B w1 w3 := hb2.trans (hb3.mono (by have := hb2.size; omega))
      clear hb3 hb2
      go_wp2_with fail
      refine (HL.out _ hb4).mono ?_
      rintro e u1 ⟨v1, rfl, hf1, hd1⟩
      obtain ⟨p7, c7, rfl, -, hy1⟩ := hf1.bys
      have hb5 : Below B w1 u1 := hb4.trans (hd1.mono (by have := hb4.size; omega))
      clear hb4 hd1 hf1
      go_wp2_with fail
      refine (HL'.out _ hb5).mono ?_
      rintro e u2 ⟨v2, rfl, hf2, hd2⟩
      obtain ⟨q7, d7, rfl, -, hy2⟩ := hf2.bys
      have hy1 := hy1.below hd2
      have hb4 : Below B w1 u2 := hb5.trans (hd2.mono (by have := hb5.size; omega))
      have HQE7 := Lib.hid (equal_any p7 q7 c7 d7 x x u2 _ _ hy1 hy2 (by have := HLL.out; have := HN.out; omega) (by have := HLL.out; have := HN.out; omega))
      simp only [decide_true] at HQE7
      clear hb5 hd2 hf2 hy1 hy2
      go_wp2_with fail
      refine HQE7.out.mono ?_
      rintro e u3 ⟨rfl, hd3⟩
      have hb5 : Below B w1 u3 := hb4.trans (hd3.mono (by have := hb4.size; omega))
      clear hb4 hd3
      have hb4 := hb5
      clear hb5
      go_wp2_with fail
      refine (HT.out _ hb4).mono ?_
      rintro e u1 ⟨v1, rfl, hf1, hd1⟩
      obtain ⟨p8, c8, rfl, -, hy1⟩ := hf1.bys
      have hb5 : Below B w1 u1 := hb4.trans (hd1.mono (by have := hb4.size; omega))
      clear hb4 hd1 hf1
      go_wp2_with fail
      refine (HT'.out _ hb5).mono ?_
      rintro e u2 ⟨v2, rfl, hf2, hd2⟩
      obtain ⟨q8, d8, rfl, -, hy2⟩ := hf2.bys
      have hy1 := hy1.below hd2
      have hb4 : Below B w1 u2 := hb5.trans (hd2.mono (by have := hb5.size; omega))
      have HQE8 := Lib.hid (equal_any p8 q8 c8 d8 y y u2 _ _ hy1 hy2 (by have := HBL.out; have := HN.out; omega) (by have := HBL.out; have := HN.out; omega))
      simp only [decide_true] at HQE8
      clear hb5 hd2 hf2 hy1 hy2
      go_wp2_with fail
      refine HQE8.out.mono ?_
      rintro e u3 ⟨rfl, hd3⟩
      have hb5 : Below B w1 u3 := hb4.trans (hd3.mono (by have := hb4.size; omega))
      clear hb4 hd3
      have hb4 := hb5
      clear hb5
      go_wp2_with fail
      refine (HE.out _ hb4).mono ?_
      rintro e u4 ⟨rfl, hd4⟩
      have hb5 : Below B w1 u4 := hb4.trans (hd4.mono (by have := hb4.size; omega))
      clear hb4 hd4
      go_wp2_with fail
      go_ret
      exact ⟨rfl, HB1.out.trans (hb5.mono (by rw [← hB]; exact HB1.out.size))⟩
  · have H3 := Lib.hid (alive04_walk w hS)
    have hn : 1000 < (l.length : Int) := by omega
    generalize l.length = n at *
    clear h hS hl hcap
    go_enter Tryd.func4, Tryd.ntmps4
    go_wp2_with fail
    refine H3.out.mono ?_
    rintro e w3 ⟨rfl, hb3⟩
    go_wp2_with fail
    go_ret
    exact ⟨rfl, hb3⟩
end Go.Proofs.YthoccgkkgnlbpaaDoor
