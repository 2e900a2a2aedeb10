/- Two strings, and a message, as arguments. -/
import Derived.Test.YtgdhakkfddmkjaaDoorArgsR
import Derived.OpenShut
import Derived.Deep.Slices
import Derived.Deep.Fields
import Derived.ChangeSame
import Derived.Test.YtgdhakkfddmkjaaDoorJ30
set_option linter.unusedVariables false
set_option linter.unusedSimpArgs false
namespace Go.Proofs.YtgdhakkfddmkjaaDoor
open Go Go.ChangeShapes Go.WideShapes Go.ChangeAt Go.RowKit Go.Deep

set_option maxRecDepth 100000 in
theorem str2_arg {H : Type} {enc : TypeId × Value → H} {W : World} {r : Reach} {b0 : Nat} {v : Value} {d : DataW H} {p : List MemPlace} (hval : Value.okWide Tryd.prog W r b0 40 v) (h0 : DataW.Trod enc Tryd.prog W 0 (fun _ => true) true 40 v d p) :
    ∃ a b : ByteArray, v = .agg #[.string a, .string b] ∧ a.size ≤ maxLen ∧ b.size ≤ maxLen := by
  simp only [Value.okWide, Tryd.underlying40] at hval
  obtain ⟨⟨l⟩, rfl, hsz, _⟩ := hval
  have hC : Tryd.prog.cellsOf 40 = 2 := by kernel_rfl
  have hE : Tryd.prog.cellsOf 9 = 1 := by kernel_rfl
  match l, hsz.trans hC with
  | [c0, c1], _ =>
    obtain ⟨fuel, hf⟩ := h0
    obtain ⟨xs, m, _, _, _, hlen, hg⟩ := DataW.trod_array Tryd.underlying40 hf
    match xs, hlen with
    | [y0, y1], _ =>
      have g0 : DataW.trod enc Tryd.prog W 0 (fun _ => true) true m 9 [c0] = some y0 := by simpa [Value.cells, hE] using hg 0 (by decide)
      have g1 : DataW.trod enc Tryd.prog W 0 (fun _ => true) true m 9 [c1] = some y1 := by simpa [Value.cells, hE] using hg 1 (by decide)
      obtain ⟨a, e0, -, w0⟩ := DataW.trod_string Tryd.underlying9 g0
      obtain ⟨b, e1, -, w1⟩ := DataW.trod_string Tryd.underlying9 g1
      injection e0 with e0
      injection e1 with e1
      exact ⟨a, b, by rw [e0, e1], w0, w1⟩
set_option maxRecDepth 100000 in
theorem msg_arg {H : Type} {enc : TypeId × Value → H} {W : World} {r : Reach} {b0 : Nat} {v : Value} {d : DataW H} {p : List MemPlace} (hval : Value.okWide Tryd.prog W r b0 37 v) (h0 : DataW.Trod enc Tryd.prog W 0 (fun _ => true) true 37 v d p) :
    ∃ (ui fl : Nat) (P : Option Addr) (l : List UInt8) (c : Nat), v = .agg #[.int .u32 ui, .int .u8 fl, .slice P l.length c] ∧ ui < 4294967296 ∧ fl < 256 ∧ l.length ≤ c ∧ c ≤ maxLen ∧ Bys W W.heap.size P l ∧ (P = none → l.length = 0 ∧ c = 0) := by
  obtain ⟨v0, v1, v2, y0, y1, y2, n, rfl, -, -, h0, h1, h2⟩ := Go.Joins.open_agg3 Tryd.underlying37 (by kernel_rfl) (by kernel_rfl) hval h0
  obtain ⟨ui, e0, -, w0⟩ := DataW.trod_int Tryd.underlying22 h0
  obtain ⟨fl, e1, -, w1⟩ := DataW.trod_int Tryd.underlying23 h1
  obtain ⟨P, l, c, e2, hc, hm, hb, hn⟩ := bytes_trod Tryd.underlying24 Tryd.underlying5 cellsU8 h2
  injection e0 with e0
  injection e1 with e1
  have b0 := bounds_u32 w0
  have b1 := bounds_u8 w1
  obtain ⟨ui, rfl⟩ := Int.eq_ofNat_of_zero_le b0.1
  obtain ⟨fl, rfl⟩ := Int.eq_ofNat_of_zero_le b1.1
  exact ⟨ui, fl, P, l, c, by rw [e0, e1, e2], by omega, by omega, hc, hm, hb, hn⟩
set_option maxRecDepth 100000 in
/-- Ten cells that read as a response. -/
theorem ten_trod {H : Type} {enc : TypeId × Value → H} {W : World} {fuel : Nat} {l : List Value} {x : DataW H × List MemPlace} (hlen : l.length = 10) (hf : DataW.trod enc Tryd.prog W 0 (fun _ => true) true fuel 26 l = some x) :
    ∃ r P c, l = (rspA r P c).toList ∧ RspIn W r P c := by
  match l, hlen with
  | [c0, c1, c2, c3, c4, c5, c6, c7, c8, c9], _ =>
    have hone : oneCellFields Tryd.prog (match Tryd.prog.underlying 26 with | some (.struct fs) => fs | _ => #[]) = true := by kernel_rfl
    obtain ⟨xs, n, _, _, _, hxl, hg⟩ := DataW.trod_struct Tryd.underlying26 hf
    have hk : ∀ (j : Nat) (f : Field), (match Tryd.prog.underlying 26 with | some (.struct fs) => fs | _ => #[])[j]? = some f → f.offset = j ∧ Tryd.prog.cellsOf f.type = 1 := fun j f hj => hone_of hone j f hj
    rw [Tryd.underlying26] at hk
    match xs, hxl with
    | [y0, y1, y2, y3, y4, y5, y6, y7, y8, y9], _ =>
      have g0 := hg 0 _ rfl
      have g1 := hg 1 _ rfl
      have g2 := hg 2 _ rfl
      have g3 := hg 3 _ rfl
      have g4 := hg 4 _ rfl
      have g5 := hg 5 _ rfl
      have g6 := hg 6 _ rfl
      have g7 := hg 7 _ rfl
      have g8 := hg 8 _ rfl
      have g9 := hg 9 _ rfl
      rw [(hk 0 _ rfl).1, (hk 0 _ rfl).2] at g0
      rw [(hk 1 _ rfl).1, (hk 1 _ rfl).2] at g1
      rw [(hk 2 _ rfl).1, (hk 2 _ rfl).2] at g2
      rw [(hk 3 _ rfl).1, (hk 3 _ rfl).2] at g3
      rw [(hk 4 _ rfl).1, (hk 4 _ rfl).2] at g4
      rw [(hk 5 _ rfl).1, (hk 5 _ rfl).2] at g5
      rw [(hk 6 _ rfl).1, (hk 6 _ rfl).2] at g6
      rw [(hk 7 _ rfl).1, (hk 7 _ rfl).2] at g7
      rw [(hk 8 _ rfl).1, (hk 8 _ rfl).2] at g8
      rw [(hk 9 _ rfl).1, (hk 9 _ rfl).2] at g9
      obtain ⟨r, P, c, e, hin⟩ := rsp_trod g0 g1 g2 g3 g4 g5 g6 g7 g8 g9
      exact ⟨r, P, c, by rw [← e], hin⟩
theorem list_of {A : Type} {Q : Nat → A → Prop} (n : Nat) (h : ∀ i, i < n → ∃ a, Q i a) : ∃ L : List A, L.length = n ∧ ∀ i (hi : i < L.length), Q i L[i] := by
  refine ⟨List.ofFn (fun i : Fin n => Classical.choose (h i.val i.isLt)), by simp, fun i hi => ?_⟩
  have hi' : i < n := by simpa using hi
  rw [List.getElem_ofFn]
  exact Classical.choose_spec (h i hi')
/-- What an argument's responses keep to. -/
def RspsIn (W : World) (L : List Rsp) (p : Option Addr) (c : Nat) : Prop :=
  L.length ≤ c ∧ c ≤ maxLen ∧ Rsps W W.heap.size p L ∧ ∀ r ∈ L, ∃ P c', RspIn W r P c'
set_option maxRecDepth 100000 in
theorem rsps_arg {H : Type} {enc : TypeId × Value → H} {W : World} {r : Reach} {b0 : Nat} {v : Value} {d : DataW H} {p : List MemPlace} (hval : Value.okWide Tryd.prog W r b0 28 v) (h0 : DataW.Trod enc Tryd.prog W 0 (fun _ => true) true 28 v d p) :
    ∃ (q : Option Addr) (L : List Rsp) (c : Nat), v = .slice q L.length c ∧ RspsIn W L q c := by
  obtain ⟨a, n, cap, rfl⟩ := okWide_slice Tryd.underlying28 hval
  obtain ⟨fuel, hf⟩ := h0
  have hC : Tryd.prog.cellsOf 26 = 10 := by kernel_rfl
  rcases open_slice Tryd.underlying28 hf with ⟨hcs, _⟩ | ⟨a2, len, cap2, m, k, D, Pl, hcs, _, hl, hm, hmm, _, hel⟩
  · simp [Value.cells] at hcs
    obtain ⟨rfl, rfl, rfl⟩ := hcs
    exact ⟨none, [], 0, rfl, Nat.zero_le _, Nat.zero_le _, fun i hi => absurd hi (by simp), fun r hr => by cases hr⟩
  · simp [Value.cells] at hcs
    obtain ⟨rfl, rfl, rfl⟩ := hcs
    have hm2 : m = cap := by rw [hmm]; rfl
    have hQ : ∀ i, i < n → ∃ r : Rsp, ∃ P c, RspIn W r P c ∧ ∀ j (hj : j < 10), W.cell? (a2.add (i * 10 + j)) = (rspA r P c)[j]? := fun i hi => by
      obtain ⟨l, hc, ht⟩ := hel i (by omega)
      rw [hC] at hc
      obtain ⟨_, hll, hat⟩ := World.cells?_some hc
      obtain ⟨r, P, c, e, hin⟩ := ten_trod hll ht
      refine ⟨r, P, c, hin, fun j hj => ?_⟩
      have h1 := hat j hj
      rw [Go.Deep.add_add, e, Array.getElem?_toList] at h1
      exact h1
    obtain ⟨L, hL, hall⟩ := list_of n hQ
    have hsp : 0 < L.length → a2 = ⟨a2.block, a2.off, none⟩ := fun h => by
      obtain ⟨P, c, _, hc⟩ := hall 0 h
      have h0 := hc 0 (by decide)
      have h1 : a2.spot = none := World.cell?_spot (w := W) (a := a2) (v := .int .i64 L[0].kind) h0
      cases a2
      simp only at h1
      rw [h1]
    refine ⟨some a2, L, cap, by rw [hL], by omega, hm, fun i hi => ?_, fun r hr => ?_⟩
    · obtain ⟨P, c, hin, hc⟩ := hall i hi
      have hs := hsp (by omega)
      generalize a2.block = b at *
      generalize a2.off = o at *
      subst hs
      have hc' : ∀ j (hj : j < 10), W.cell? ⟨b, o + i * 10 + j, none⟩ = (rspA L[i] P c)[j]? := fun j hj => by
        have := hc j hj
        rw [Go.WideShapes.add_plain, ← Nat.add_assoc] at this
        exact this
      obtain ⟨h1, h2, h3, h4, h5, h6, h7, h8, h9, _⟩ := hin
      have k0 := hc' 0 (by decide)
      refine ⟨b, o, P, c, rfl, World.block_lt_of_cell? _ _ (u := .int .i64 L[i].kind) k0, h9, h7, k0, hc' 1 (by decide), hc' 2 (by decide), hc' 3 (by decide), hc' 4 (by decide), hc' 5 (by decide), hc' 6 (by decide), hc' 7 (by decide), hc' 8 (by decide), hc' 9 (by decide)⟩
    · obtain ⟨i, hi, rfl⟩ := List.getElem_of_mem hr
      obtain ⟨P, c, hin, _⟩ := hall i hi
      exact ⟨P, c, hin⟩
end Go.Proofs.YtgdhakkfddmkjaaDoor
