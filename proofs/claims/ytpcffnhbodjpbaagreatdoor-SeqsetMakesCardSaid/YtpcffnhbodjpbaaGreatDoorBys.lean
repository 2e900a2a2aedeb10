/- Plain lemmas on slices of bytes in memory: what they read as, and what keeps it. -/
import Derived.Test.YtpcffnhbodjpbaaGreatDoorF
import Derived.Lib.SlBytesRowKit
set_option linter.unusedVariables false
set_option linter.unusedSimpArgs false
namespace Go.Proofs.YtpcffnhbodjpbaaGreatDoor
open Go.RowKit

/-- The slice of l.length bytes at p reads as l, below block B. -/
def Bys (w : World) (B : Nat) (p : Option Addr) (l : List UInt8) : Prop :=
  0 < l.length → ∃ b o, p = some ⟨b, o, none⟩ ∧ b < B ∧ ∀ i (h : i < l.length), w.cell? ⟨b, o + i, none⟩ = some (.int .u8 (l[i].toNat : Int))

section
variable {w w' : World} {B B' : Nat} {p : Option Addr} {l : List UInt8}
theorem Bys.nil (w : World) (B : Nat) (p : Option Addr) : Bys w B p [] := fun h => absurd h (by simp)
theorem Bys.keep (h : Bys w B p l) (hk : ∀ q : Addr, q.block < B → w'.cell? q = w.cell? q) : Bys w' B p l := fun h0 => by
  obtain ⟨b, o, e, hb, hc⟩ := h h0
  exact ⟨b, o, e, hb, fun i hi => (hk _ hb).trans (hc i hi)⟩
theorem Bys.more (h : Bys w B p l) (hB : B ≤ B') : Bys w B' p l := fun h0 => by
  obtain ⟨b, o, e, hb, hc⟩ := h h0
  exact ⟨b, o, e, Nat.lt_of_lt_of_le hb hB, hc⟩
theorem Bys.below (h : Bys w B p l) (hb : Below B w w') : Bys w' B p l := h.keep fun _ hq => hb.cell hq
theorem Bys.belowle {C : Nat} (h : Bys w B p l) (hb : Below C w w') (hC : B ≤ C) : Bys w' B p l := h.keep fun _ hq => hb.cell (Nat.lt_of_lt_of_le hq hC)
theorem Bys.drew (h : Bys w B p l) : Bys w.drew B p l := h
theorem Bys.drewN (h : Bys w B p l) (k : Nat) : Bys (w.drewN k) B p l := h
theorem Bys.past (h : Bys w B p l) (hB : B ≤ w.heap.size) (o : Obj) : Bys (w.alloc o) B p l := h.keep fun q hq => World.cell?_alloc_lt w o q (by omega)
theorem Bys.at (h : Bys w B p l) (h0 : 0 < l.length) : ∃ b o, p = some ⟨b, o, none⟩ ∧ b < B ∧ ∀ i (hi : i < l.length), w.cell? ⟨b, o + i, none⟩ = some (.int .u8 (l[i].toNat : Int)) := h h0
/-- The tail behind k places. -/
theorem Bys.from (h : Bys w B p l) (k : Nat) : Bys w B (p.map (·.add k)) (l.drop k) := fun h0 => by
  obtain ⟨b, o, rfl, hb, hc⟩ := h (by rw [List.length_drop] at h0; omega)
  refine ⟨b, o + k, ?_, hb, fun i hi => ?_⟩
  · rw [Option.map_some, Go.WideShapes.add_plain]
  · rw [List.length_drop] at hi
    rw [Nat.add_assoc, hc (k + i) (by omega), List.getElem_drop]
/-- The first k places. -/
theorem Bys.upto (h : Bys w B p l) (k : Nat) : Bys w B p (l.take k) := fun h0 => by
  rw [List.length_take] at h0
  obtain ⟨b, o, e, hb, hc⟩ := h (by omega)
  refine ⟨b, o, e, hb, fun i hi => ?_⟩
  rw [List.length_take] at hi
  rw [hc i (by omega), List.getElem_take]
/-- The walk's own spelling of a cut that leaves nothing at the capacity's end. -/
theorem Bys.from_if (h : Bys w B p l) (k cap : Nat) (hl : l.length ≤ cap) : Bys w B (if cap = k then p else p.map (·.add k)) (l.drop k) := by
  by_cases e : cap = k
  · have : l.drop k = [] := List.drop_eq_nil_of_le (by omega)
    rw [this]; exact Bys.nil _ _ _
  · rw [if_neg e]; exact h.from k
/-- As the shelf's contracts say it. -/
def ints (l : List UInt8) : List Int := l.map fun b => (b.toNat : Int)
theorem ints_length (l : List UInt8) : (ints l).length = l.length := by simp [ints]
theorem Bys.ints_in (h : Bys w B p l) : Lib.BytesIn w p l.length (ints l) := fun h0 => by
  obtain ⟨b, o, e, hb, hc⟩ := h h0
  exact ⟨b, o, e, fun i hi => by rw [hc i hi]; simp [ints, hi]⟩
end

/-- 'string(b)' -/
theorem conv_bys {P : Program} {w : World} {B : Nat} {p : Option Addr} {l : List UInt8} (h : Bys w B p l) (c : Nat) {src dst e : TypeId} (hs : P.underlying src = some (.slice e)) (he : P.underlying e = some (.int .u8)) (hd : P.underlying dst = some .string) :
    (convert src dst (.slice p l.length c)).run P w = .ok (.string ⟨l.toArray⟩) w := by
  rcases Nat.eq_zero_or_pos l.length with h0 | h0
  · have hl : l = [] := List.eq_nil_of_length_eq_zero h0
    subst hl
    rcases p with _ | a
    · exact run_convert_bytes_nil (P := P) (w := w) src e hs he _ _ dst hd
    · exact run_convert_bytes_back (P := P) w src dst e a c [] hs he hd (fun j hj => absurd hj (by simp))
  · obtain ⟨b, o, rfl, hb, hc⟩ := h h0
    exact run_convert_bytes_back (P := P) w src dst e ⟨b, o, none⟩ c l hs he hd (fun j hj => by rw [Go.WideShapes.add_plain]; exact hc j hj)
end Go.Proofs.YtpcffnhbodjpbaaGreatDoor
