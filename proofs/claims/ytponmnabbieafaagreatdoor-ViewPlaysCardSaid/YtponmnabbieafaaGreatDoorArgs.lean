/- Arguments of type []byte, as the walks take them; and what keeps them. -/
import Derived.Test.YtponmnabbieafaaGreatDoorBys
import Derived.Lib.SlBytesRowKit
set_option linter.unusedVariables false
set_option linter.unusedSimpArgs false
namespace Go.Proofs.YtponmnabbieafaaGreatDoor
open Go Go.ChangeShapes Go.WideShapes Go.ChangeAt Go.RowKit

theorem laidOut : laidOutB Tryz.prog = true := by kernel_rfl
theorem cellsU8 : Tryz.prog.cellsOf 5 = 1 := by kernel_rfl

theorem bytes_arg {H : Type} {enc : TypeId × Value → H} {P : Program} {t e : TypeId} (ht : P.underlying t = some (.slice e)) (he : P.underlying e = some (.int .u8)) (hc : P.cellsOf e = 1) {W : World} {r : Reach} {b0 : Nat} {v : Value} {d : DataW H} {p : List MemPlace}
    (hval : Value.okWide P W r b0 t v) (h0 : DataW.Trod enc P W 0 (fun _ => true) true t v d p) : ∃ a l cap, v = .slice a l.length cap ∧ l.length ≤ cap ∧ Bys W W.heap.size a l := by
  obtain ⟨a, n, cap, rfl⟩ := okWide_slice ht hval
  obtain ⟨xs, hx, hcap, hb, _, hr, _⟩ := opened_bytes ht he hc h0
  have hl : (Lib.bytesOf xs).length = n := by rw [Lib.bytesOf_length, hx]
  refine ⟨a, Lib.bytesOf xs, cap, by rw [hl], by omega, fun hp => ?_⟩
  obtain ⟨b, o, e1, hcell⟩ := hb (by omega)
  refine ⟨b, o, e1, ?_, fun i hi => ?_⟩
  · have := World.block_lt_of_cell? _ _ (hcell 0 (by omega))
    exact this
  · rw [hcell i (by omega)]
    have hi' : i < xs.length := by omega
    have hxr := hr (xs[i]) (List.getElem_mem hi')
    have : ((Lib.bytesOf xs)[i].toNat : Int) = xs[i] := by
      simp only [Lib.bytesOf, List.getElem_map]
      rw [UInt8.toNat_ofNat']
      omega
    rw [this]
    simp [List.getD, hi']
/-- The same, and a nil slice has no cells. -/
theorem bytes_argn {H : Type} {enc : TypeId × Value → H} {P : Program} {t e : TypeId} (ht : P.underlying t = some (.slice e)) (he : P.underlying e = some (.int .u8)) (hc : P.cellsOf e = 1) {W : World} {r : Reach} {b0 : Nat} {v : Value} {d : DataW H} {p : List MemPlace}
    (hval : Value.okWide P W r b0 t v) (h0 : DataW.Trod enc P W 0 (fun _ => true) true t v d p) : ∃ a l cap, v = .slice a l.length cap ∧ l.length ≤ cap ∧ Bys W W.heap.size a l ∧ (a = none → l.length = 0 ∧ cap = 0) := by
  obtain ⟨a, l, cap, rfl, h1, h2⟩ := bytes_arg ht he hc hval h0
  obtain ⟨xs, _, _, _, _, _, hn⟩ := opened_bytes ht he hc h0
  exact ⟨a, l, cap, rfl, h1, h2, fun e => ⟨by have := hn e; omega, hn e⟩⟩
theorem bytes_stays {H : Type} {enc : TypeId × Value → H} {P : Program} {t : TypeId} (hl : laidOutB P = true) (hr : P.readableRec t = true) (hrow : t < P.types.size) {W W' : World} {v : Value} {d : DataW H} {ps : List MemPlace} {sp : Nat → Bool}
    (h : DataW.Trod enc P W 0 (fun _ => true) true t v d ps) (hb : Below W.heap.size W W') (hlt : ∀ x ∈ ps, x.block < W.heap.size) (hs : ∀ x ∈ ps, sp x.block = true) : DataW.Trod enc P W' 0 sp true t v d ps :=
  WideElems.Trod_stays hl hr hrow h (fun x hx => hb.same (hlt x hx)) (fun x hx => hs x hx)
end Go.Proofs.YtponmnabbieafaaGreatDoor
