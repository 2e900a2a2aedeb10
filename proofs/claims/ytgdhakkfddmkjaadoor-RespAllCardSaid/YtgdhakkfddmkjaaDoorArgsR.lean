/- Arguments that are responses. -/
import Derived.Test.YtgdhakkfddmkjaaDoorArgs
import Derived.Test.YtgdhakkfddmkjaaDoorJ13
import Derived.Lib.SmallJoins
set_option linter.unusedVariables false
set_option linter.unusedSimpArgs false
namespace Go.Proofs.YtgdhakkfddmkjaaDoor
open Go Go.Joins Go.ChangeShapes Go.WideShapes Go.ChangeAt Go.RowKit Go.Deep

section
variable {H : Type} {enc : TypeId × Value → H} {P : Program} {w : World} {base : Nat} {spare : Nat → Bool} {held : Bool}
/-- What an argument's response keeps to. -/
def RspIn (W : World) (r : Rsp) (P : Option Addr) (c : Nat) : Prop :=
  r.n < 4294967296 ∧ r.flags < 256 ∧ r.uid < 4294967296 ∧ r.size < 4294967296 ∧ r.tag.length ≤ maxLen ∧ r.text.length ≤ maxLen ∧ r.body.length ≤ c ∧ c ≤ maxLen ∧ Bys W W.heap.size P r.body ∧ (P = none → r.body.length = 0 ∧ c = 0) ∧ (-9223372036854775808 ≤ r.kind ∧ r.kind ≤ 9223372036854775807) ∧ (-9223372036854775808 ≤ r.status ∧ r.status ≤ 9223372036854775807) ∧ (-9223372036854775808 ≤ r.items ∧ r.items ≤ 9223372036854775807)
theorem open_agg10 {r : Reach} {b0 : Nat} {t : TypeId} {f0 f1 f2 f3 f4 f5 f6 f7 f8 f9 : Field} {v : Value} {d : DataW H} {p : List MemPlace} (hs : P.underlying t = some (.struct #[f0, f1, f2, f3, f4, f5, f6, f7, f8, f9])) (hone : oneCellFields P #[f0, f1, f2, f3, f4, f5, f6, f7, f8, f9] = true) (hC : P.cellsOf t = 10)
    (hv : Value.okWide P w r b0 t v) (h : DataW.Trod enc P w base spare held t v d p) :
    ∃ (v0 v1 v2 v3 v4 v5 v6 v7 v8 v9 : Value) (y0 y1 y2 y3 y4 y5 y6 y7 y8 y9 : DataW H × List MemPlace) (n : Nat), v = .agg #[v0, v1, v2, v3, v4, v5, v6, v7, v8, v9] ∧
      DataW.trod enc P w base spare held n f0.type [v0] = some y0 ∧ DataW.trod enc P w base spare held n f1.type [v1] = some y1 ∧ DataW.trod enc P w base spare held n f2.type [v2] = some y2 ∧ DataW.trod enc P w base spare held n f3.type [v3] = some y3 ∧ DataW.trod enc P w base spare held n f4.type [v4] = some y4 ∧ DataW.trod enc P w base spare held n f5.type [v5] = some y5 ∧ DataW.trod enc P w base spare held n f6.type [v6] = some y6 ∧ DataW.trod enc P w base spare held n f7.type [v7] = some y7 ∧ DataW.trod enc P w base spare held n f8.type [v8] = some y8 ∧ DataW.trod enc P w base spare held n f9.type [v9] = some y9 := by
  obtain ⟨cs, rfl, hsz⟩ := okWide_struct hs hv
  obtain ⟨l⟩ := cs
  match l, hsz.trans hC with
  | [c0, c1, c2, c3, c4, c5, c6, c7, c8, c9], _ =>
    obtain ⟨fuel, hf⟩ := h
    obtain ⟨xs, n, _, hx, _, hlen, hg⟩ := DataW.trod_struct hs hf
    obtain ⟨o0, k0⟩ := hone_of hone 0 f0 rfl
    obtain ⟨o1, k1⟩ := hone_of hone 1 f1 rfl
    obtain ⟨o2, k2⟩ := hone_of hone 2 f2 rfl
    obtain ⟨o3, k3⟩ := hone_of hone 3 f3 rfl
    obtain ⟨o4, k4⟩ := hone_of hone 4 f4 rfl
    obtain ⟨o5, k5⟩ := hone_of hone 5 f5 rfl
    obtain ⟨o6, k6⟩ := hone_of hone 6 f6 rfl
    obtain ⟨o7, k7⟩ := hone_of hone 7 f7 rfl
    obtain ⟨o8, k8⟩ := hone_of hone 8 f8 rfl
    obtain ⟨o9, k9⟩ := hone_of hone 9 f9 rfl
    match xs, hlen with
    | [y0, y1, y2, y3, y4, y5, y6, y7, y8, y9], _ =>
      exact ⟨c0, c1, c2, c3, c4, c5, c6, c7, c8, c9, y0, y1, y2, y3, y4, y5, y6, y7, y8, y9, n, rfl, by simpa [Value.cells, o0, k0] using hg 0 f0 rfl, by simpa [Value.cells, o1, k1] using hg 1 f1 rfl, by simpa [Value.cells, o2, k2] using hg 2 f2 rfl, by simpa [Value.cells, o3, k3] using hg 3 f3 rfl, by simpa [Value.cells, o4, k4] using hg 4 f4 rfl, by simpa [Value.cells, o5, k5] using hg 5 f5 rfl, by simpa [Value.cells, o6, k6] using hg 6 f6 rfl, by simpa [Value.cells, o7, k7] using hg 7 f7 rfl, by simpa [Value.cells, o8, k8] using hg 8 f8 rfl, by simpa [Value.cells, o9, k9] using hg 9 f9 rfl⟩
end

/-- A slice of bytes by its reading. -/
theorem bytes_trod {H : Type} {enc : TypeId × Value → H} {P : Program} {W : World} {t e : TypeId} {m : Nat} {v : Value} {y : DataW H × List MemPlace} (ht : P.underlying t = some (.slice e)) (he : P.underlying e = some (.int .u8)) (hc : P.cellsOf e = 1)
    (h : DataW.trod enc P W 0 (fun _ => true) true m t [v] = some y) : ∃ a l cap, v = .slice a l.length cap ∧ l.length ≤ cap ∧ cap ≤ maxLen ∧ Bys W W.heap.size a l ∧ (a = none → l.length = 0 ∧ cap = 0) := by
  have hT : ∀ a n cap, v = .slice a n cap → DataW.Trod enc P W 0 (fun _ => true) true t (.slice a n cap) y.1 y.2 := fun a n cap e => ⟨m, by subst e; simpa [Value.cells] using h⟩
  obtain ⟨a, n, cap, hm, rfl⟩ : ∃ a n cap, cap ≤ maxLen ∧ v = .slice a n cap := by
    rcases open_ints ht he hc h with ⟨hcs, _⟩ | ⟨a, len, cap, zs, hcs, _, hl, hm, _⟩
    · injection hcs with hv
      exact ⟨none, 0, 0, by decide, hv⟩
    · injection hcs with hv
      exact ⟨some a, len, cap, hm, hv⟩
  obtain ⟨xs, hx, hcap, hb, _, hr, hn⟩ := opened_bytes ht he hc (hT _ _ _ rfl)
  have hl : (Lib.bytesOf xs).length = n := by rw [Lib.bytesOf_length, hx]
  refine ⟨a, Lib.bytesOf xs, cap, by rw [hl], by omega, hm, fun hp => ?_, fun e => ⟨by have := hn e; omega, hn e⟩⟩
  obtain ⟨b, o, e1, hcell⟩ := hb (by omega)
  refine ⟨b, o, e1, ?_, fun i hi => ?_⟩
  · have := World.block_lt_of_cell? _ _ (hcell 0 (by omega))
    exact this
  · rw [hcell i (by omega)]
    have hi' : i < xs.length := by omega
    have hxr := hr (xs[i]) (List.getElem_mem hi')
    have : ((Lib.bytesOf xs)[i].toNat : Int) = xs[i] := by
      simp only [Lib.bytesOf, List.getElem_map]
      rw [UInt8.toNat_ofNat']
      omega
    rw [this]
    simp [List.getD, hi']
/-- Ten cells that read as a response's fields are a response. -/
theorem rsp_trod {H : Type} {enc : TypeId × Value → H} {W : World} {v0 v1 v2 v3 v4 v5 v6 v7 v8 v9 : Value} {y0 y1 y2 y3 y4 y5 y6 y7 y8 y9 : DataW H × List MemPlace} {m : Nat}
    (h0 : DataW.trod enc Tryd.prog W 0 (fun _ => true) true m 3 [v0] = some y0) (h1 : DataW.trod enc Tryd.prog W 0 (fun _ => true) true m 22 [v1] = some y1) (h2 : DataW.trod enc Tryd.prog W 0 (fun _ => true) true m 9 [v2] = some y2) (h3 : DataW.trod enc Tryd.prog W 0 (fun _ => true) true m 3 [v3] = some y3) (h4 : DataW.trod enc Tryd.prog W 0 (fun _ => true) true m 9 [v4] = some y4)
    (h5 : DataW.trod enc Tryd.prog W 0 (fun _ => true) true m 3 [v5] = some y5) (h6 : DataW.trod enc Tryd.prog W 0 (fun _ => true) true m 23 [v6] = some y6) (h7 : DataW.trod enc Tryd.prog W 0 (fun _ => true) true m 22 [v7] = some y7) (h8 : DataW.trod enc Tryd.prog W 0 (fun _ => true) true m 22 [v8] = some y8) (h9 : DataW.trod enc Tryd.prog W 0 (fun _ => true) true m 24 [v9] = some y9) :
    ∃ (r : Rsp) (P : Option Addr) (c : Nat), #[v0, v1, v2, v3, v4, v5, v6, v7, v8, v9] = rspA r P c ∧ RspIn W r P c := by
  obtain ⟨k, e0, -, w0⟩ := DataW.trod_int Tryd.underlying3 h0
  obtain ⟨n, e1, -, w1⟩ := DataW.trod_int Tryd.underlying22 h1
  obtain ⟨tg, e2, -, w2⟩ := DataW.trod_string Tryd.underlying9 h2
  obtain ⟨st, e3, -, w3⟩ := DataW.trod_int Tryd.underlying3 h3
  obtain ⟨tx, e4, -, w4⟩ := DataW.trod_string Tryd.underlying9 h4
  obtain ⟨it, e5, -, w5⟩ := DataW.trod_int Tryd.underlying3 h5
  obtain ⟨fl, e6, -, w6⟩ := DataW.trod_int Tryd.underlying23 h6
  obtain ⟨ui, e7, -, w7⟩ := DataW.trod_int Tryd.underlying22 h7
  obtain ⟨sz, e8, -, w8⟩ := DataW.trod_int Tryd.underlying22 h8
  obtain ⟨P, l, c, e9, hc, hm, hb, hn⟩ := bytes_trod Tryd.underlying24 Tryd.underlying5 cellsU8 h9
  injection e0 with e0; injection e1 with e1; injection e2 with e2; injection e3 with e3; injection e4 with e4; injection e5 with e5; injection e6 with e6; injection e7 with e7; injection e8 with e8
  have b1 := bounds_u32 w1
  have b6 := bounds_u8 w6
  have b7 := bounds_u32 w7
  have b8 := bounds_u32 w8
  obtain ⟨n, rfl⟩ := Int.eq_ofNat_of_zero_le b1.1
  obtain ⟨fl, rfl⟩ := Int.eq_ofNat_of_zero_le b6.1
  obtain ⟨ui, rfl⟩ := Int.eq_ofNat_of_zero_le b7.1
  obtain ⟨sz, rfl⟩ := Int.eq_ofNat_of_zero_le b8.1
  have hS : ∀ s : ByteArray, ofL s.data.toList = s := fun s => by rcases s with ⟨⟨l⟩⟩; rfl
  have hZ : ∀ s : ByteArray, s.data.toList.length = s.size := fun s => by rw [Array.length_toList]; rfl
  refine ⟨⟨k, n, tg.data.toList, st, tx.data.toList, it, fl, ui, sz, l⟩, P, c, ?_, ?_⟩
  · simp only [rspA, hS]
    rw [e0, e1, e2, e3, e4, e5, e6, e7, e8, e9]
  · exact ⟨by dsimp only; omega, by dsimp only; omega, by dsimp only; omega, by dsimp only; omega, by dsimp only; rw [hZ]; exact w2, by dsimp only; rw [hZ]; exact w4, hc, hm, hb, hn, bounds_i64 w0, bounds_i64 w3, bounds_i64 w5⟩
set_option maxRecDepth 100000 in
/-- A response as an argument. -/
theorem rsp_arg {H : Type} {enc : TypeId × Value → H} {W : World} {r : Reach} {b0 : Nat} {v : Value} {d : DataW H} {p : List MemPlace} (hval : Value.okWide Tryd.prog W r b0 26 v) (h0 : DataW.Trod enc Tryd.prog W 0 (fun _ => true) true 26 v d p) :
    ∃ (r : Rsp) (P : Option Addr) (c : Nat), v = .agg (rspA r P c) ∧ RspIn W r P c := by
  obtain ⟨v0, v1, v2, v3, v4, v5, v6, v7, v8, v9, y0, y1, y2, y3, y4, y5, y6, y7, y8, y9, n, rfl, h0, h1, h2, h3, h4, h5, h6, h7, h8, h9⟩ := open_agg10 Tryd.underlying26 (by kernel_rfl) (by kernel_rfl) hval h0
  obtain ⟨r, P, c, e, hi⟩ := rsp_trod h0 h1 h2 h3 h4 h5 h6 h7 h8 h9
  exact ⟨r, P, c, by rw [e], hi⟩
end Go.Proofs.YtgdhakkfddmkjaaDoor
