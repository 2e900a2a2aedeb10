/- The walk of the law QuoteForms. -/
import Derived.Test.YtllboenffepcgaaDoorJ4
set_option linter.unusedVariables false
set_option linter.unusedSimpArgs false
namespace Go.Proofs.YtllboenffepcgaaDoor
open Go.RowKit

theorem litH_len (n : Nat) (h : n ≤ 1048576) : (litH n).length ≤ 14 := by
  have := decDigits_len n (by omega)
  simp [litH]
  omega
theorem litB_len (l : List UInt8) (h : l.length ≤ 1000000) : (litB l).length ≤ l.length + 14 := by
  have := litH_len l.length (by omega)
  simp [litB]; omega
theorem quoB_len {l x : List UInt8} (h : quoB l = some x) : x.length ≤ 2 * l.length + 2 := by
  have := qesc_len l
  unfold quoB at h
  split at h
  · injection h with h; subst h; simp only [List.length_cons, List.length_append, List.length_nil]; omega
  · cases h
theorem bestB_len (l : List UInt8) (h : l.length ≤ 500000) : (bestB l).length ≤ 2 * l.length + 14 := by
  cases hq : quoB l with
  | none => rw [best_spec' hq]; have := litB_len l (by omega); omega
  | some x => rw [best_spec hq]; have := quoB_len hq; omega

/-- 'append([]byte{}, b...)'. -/
theorem own_copy (w : World) (p : Option Addr) (cap : Nat) (l : List UInt8) (h : Bys w w.heap.size p l) (hl : l.length ≤ 1048576) :
    ∃ p2 c2 w', (Builtin.append_ #[26, 26] 26 #[.slice (some ⟨w.heap.size, 0, none⟩) 0 0, .slice p l.length cap]).run Tryd.prog (w.alloc (.cells #[] 5)) = .ok (.slice p2 l.length c2) w' ∧ l.length ≤ c2 ∧ Buf w' w.heap.size 1 (.slice p2 l.length c2) l.length (Lib.byteCells l) ∧ Below w.heap.size w w' := by
  have hb0 : Below w.heap.size w (w.alloc (.cells #[] 5)) := (Below.refl _ _).alloc (Nat.le_refl _) _
  have hbuf : Buf (w.alloc (.cells #[] 5)) w.heap.size 1 (.slice (some ⟨w.heap.size, 0, none⟩) 0 0) 0 [] :=
    ⟨rfl, .inr ⟨_, 0, 0, rfl, Nat.le_refl _, by rw [World.size_alloc]; omega, Nat.le_refl _, fun j u hj => by simp at hj, fun j hj => by omega⟩⟩
  obtain ⟨i0, hi, hz0, hz1, hz2⟩ := info_parts infoU8
  obtain ⟨v2, w2, hrun2, hbuf2, hgr, _⟩ := run_append_buf (P := Tryd.prog) (w.alloc (.cells #[] 5)) 26 26 5 i0 (.int .u8 0) 1 1 Tryd.underlying26 hi hz0 hz1 hz2 rfl (by decide) w.heap.size _ 0 _ hbuf p l.length cap _ (src_bys (h.below hb0)) (by unfold maxLen; omega) (by omega) hb0.size
  rw [Nat.zero_add, List.nil_append] at hbuf2
  obtain ⟨p2, c2, rfl, hc2, _⟩ := hbuf2.bys
  exact ⟨p2, c2, w2, hrun2, hc2, hbuf2, hb0.grown hgr hb0.size (fun k hk => by simp only [Value.ownBlock, Option.some.injEq] at hk; omega)⟩

end Go.Proofs.YtllboenffepcgaaDoor
