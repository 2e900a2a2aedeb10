/- Indexes and views in memory: Len, At, find, Pos. -/
import Derived.Test.YtamholmjppgfiaaGreatDoorRan33
import Derived.Test.YtamholmjppgfiaaGreatDoorShelfC
import Derived.Test.YtamholmjppgfiaaGreatDoorRgB
set_option linter.unusedVariables false
set_option linter.unusedSimpArgs false
namespace Go.Proofs.YtamholmjppgfiaaGreatDoor
open Go Go.RowKit Go.Shelf Go.Lib Go.Sort

/-- The index at block b reads as the list l; all of it lies below B. -/
def IdxR (W : World) (B b : Nat) (l : List Int) : Prop := ∃ v, W.cell? ⟨b, 0, none⟩ = some v ∧ b < B ∧ U32 W B v l
theorem IdxR.below {W W' : World} {B n b : Nat} {l : List Int} (h : IdxR W B b l) (hb : Below n W W') (hn : B ≤ n) : IdxR W' B b l := by
  obtain ⟨v, h1, h2, h3⟩ := h
  exact ⟨v, (hb.cell (p := ⟨b, 0, none⟩) (Nat.lt_of_lt_of_le h2 hn)).trans h1, h2, h3.below hb hn⟩
theorem IdxR.mono {W : World} {B B' b : Nat} {l : List Int} (h : IdxR W B b l) (hB : B ≤ B') : IdxR W B' b l := by
  obtain ⟨v, h1, h2, h3⟩ := h
  exact ⟨v, h1, by omega, h3.mono hB⟩
theorem Idx.read {w : World} {base b : Nat} {l : List Int} (h : Idx w base b l) : IdxR w w.heap.size b l := by
  obtain ⟨v, h1, h2, -⟩ := h
  exact ⟨v, h1.cell 0, h1.lt, U32.of_buf h2⟩
/-- How many elements are less. -/
def cntU (l : List Int) (u : Int) : Nat := l.countP fun y => decide (y < u)
def posU (l : List Int) (u : Int) : Nat := if l[cntU l u]? = some u then cntU l u + 1 else 0

theorem countP_rangeU (l : List Int) (u : Int) : (List.range l.length).countP (fun i => !decide (u ≤ l[i]!)) = cntU l u := by
  unfold cntU
  have h := Lib.countP_range l.toArray (fun y => decide (y < u))
  simp only [List.size_toArray] at h
  rw [← show l.toArray.toList = l from rfl]
  rw [← h]
  apply List.countP_congr
  intro i hi
  have hi' : i < l.length := by simpa using hi
  simp [getElem!_pos, hi']
set_option maxHeartbeats 1000000 in
theorem ilen_any (ib : Nat) (l : List Int) (w : World) (h : IdxR w w.heap.size ib l) :
    Calls Tryz.prog 92 #[.pointer (some ⟨ib, 0, none⟩)] w fun e w' => e = .returned (.int .i64 (l.length : Nat)) ∧ w' = w := by
  obtain ⟨v, h1, h2, A, cap, rfl, h4, h5⟩ := h
  clear h5
  generalize l.length = n at *
  go_enter Tryz.func92, Tryz.ntmps92
  go_wp2_with fail
  go_ret
  exact ⟨rfl, rfl⟩
set_option maxHeartbeats 1000000 in
theorem iat_any (ib i : Nat) (l : List Int) (x : Int) (w : World) (h : IdxR w w.heap.size ib l) (hx : l[i]? = some x) (hl : l.length ≤ 1048576) :
    Calls Tryz.prog 96 #[.pointer (some ⟨ib, 0, none⟩), .int .i64 ((i : Int) + 1)] w fun e w' => e = .returned (.tuple #[.int .u32 x, .bool true]) ∧ ∃ q, w' = w.drewN q := by
  obtain ⟨v, h1, h2, A, cap, rfl, h4, h5⟩ := h
  have hi : i < l.length := (List.getElem?_eq_some_iff.1 hx).1
  obtain ⟨b, o, rfl, h6, h7⟩ := h5 (by omega)
  have c2 := h7 i x hx
  clear h5 h7 hx
  generalize l.length = n at *
  have hiI : (i : Int) < n := by omega
  have t1 : decide ((i : Int) + 1 < 1) = false := decide_eq_false (by omega)
  have t1p : ¬ ((i : Int) + 1 < 1) := by omega
  have t2 : decide ((n : Int) < (i : Int) + 1) = false := decide_eq_false (by omega)
  have t2p : ¬ ((n : Int) < (i : Int) + 1) := by omega
  have hw : IntKind.i64.wrap ((i : Int) + 1 - 1) = i := by simp [IntKind.wrap, IntKind.bits, IntKind.signed]; omega
  go_enter Tryz.func96, Tryz.ntmps96
  go_wp2_with fail
  go_ret2
  exact ⟨rfl, 0, rfl⟩
theorem cntU_le (l : List Int) (u : Int) : cntU l u ≤ l.length := List.countP_le_length
/-- A view reads as the list l; all of it lies below B. -/
def VwR (W : World) (B : Nat) (p : Option Addr) (l : List Int) : Prop := (p = none ∧ l = []) ∨ ∃ vb ib, p = some ⟨vb, 0, none⟩ ∧ vb < B ∧ W.cell? ⟨vb, 0, none⟩ = some (.pointer (some ⟨ib, 0, none⟩)) ∧ IdxR W B ib l
theorem VwR.below {W W' : World} {B n : Nat} {p : Option Addr} {l : List Int} (h : VwR W B p l) (hb : Below n W W') (hn : B ≤ n) : VwR W' B p l := by
  rcases h with h | ⟨vb, ib, h1, h2, h3, h4⟩
  · exact .inl h
  · exact .inr ⟨vb, ib, h1, h2, (hb.cell (p := ⟨vb, 0, none⟩) (Nat.lt_of_lt_of_le h2 hn)).trans h3, h4.below hb hn⟩
theorem VwR.mono {W : World} {B B' : Nat} {p : Option Addr} {l : List Int} (h : VwR W B p l) (hB : B ≤ B') : VwR W B' p l := by
  rcases h with h | ⟨vb, ib, h1, h2, h3, h4⟩
  · exact .inl h
  · exact .inr ⟨vb, ib, h1, by omega, h3, h4.mono hB⟩
set_option maxHeartbeats 1000000 in
theorem vlen_any (p : Option Addr) (l : List Int) (w : World) (h : VwR w w.heap.size p l) :
    Calls Tryz.prog 77 #[.pointer p] w fun e w' => e = .returned (.int .i64 (l.length : Nat)) ∧ w' = w := by
  rcases h with ⟨rfl, rfl⟩ | ⟨vb, ib, rfl, h2, h3, h4⟩
  · go_enter Tryz.func77, Tryz.ntmps77
    go_wp2_with fail
    go_ret
    exact ⟨rfl, rfl⟩
  · have HL := Lib.hid (ilen_any ib l w h4)
    clear h4
    go_enter Tryz.func77, Tryz.ntmps77
    go_wp2_with fail
    refine HL.out.mono ?_
    rintro e w' ⟨rfl, rfl⟩
    go_wp2_with fail
    go_ret
    exact ⟨rfl, rfl⟩
set_option maxHeartbeats 1000000 in
theorem vat_any (p : Option Addr) (i : Nat) (l : List Int) (x : Int) (w : World) (h : VwR w w.heap.size p l) (hx : l[i]? = some x) (hl : l.length ≤ 1048576) :
    Calls Tryz.prog 82 #[.pointer p, .int .i64 ((i : Int) + 1)] w fun e w' => e = .returned (.tuple #[.int .u32 x, .bool true]) ∧ ∃ q, w' = w.drewN q := by
  rcases h with ⟨rfl, rfl⟩ | ⟨vb, ib, rfl, h2, h3, h4⟩
  · simp at hx
  · have HL := Lib.hid (iat_any ib i l x w h4 hx hl)
    clear h4 hx
    go_enter Tryz.func82, Tryz.ntmps82
    go_wp2_with fail
    refine HL.out.mono ?_
    rintro e w' ⟨rfl, q, rfl⟩
    go_wp2_with fail
    go_ret2
    exact ⟨rfl, q, rfl⟩
set_option maxHeartbeats 1000000 in
theorem vnew_any (l : List Int) (A : Option Addr) (cap : Nat) (w : World) (hU : U32 w w.heap.size (.slice A l.length cap) l) (hl : l.length ≤ 1048576) (h0 : ∀ x ∈ l, 0 ≤ x) :
    Calls Tryz.prog 17 #[.slice A l.length cap] w fun e w' => ∃ p, e = .returned (.pointer p) ∧ VwR w' w'.heap.size p (srtU l) ∧ Below w.heap.size w w' := by
  have HN := Lib.hid (new_any l A cap w hU hl h0)
  clear hU h0
  generalize l.length = n at *
  go_enter Tryz.func17, Tryz.ntmps17
  go_wp2_with fail
  refine HN.out.mono ?_
  rintro e w1 ⟨b, rfl, h1, h2, h3⟩
  have H1 := Lib.hid (And.intro h1 (And.intro h2 h3))
  clear h1 h2 h3
  go_wp2_with fail
  go_ret
  obtain ⟨h1, h2, h3⟩ := H1.out
  refine ⟨_, rfl, .inr ⟨w1.heap.size, b, rfl, by rw [World.size_alloc]; omega, (Blk.made w1 56 _).cell 0, ?_⟩, h3.alloc h3.size _⟩
  exact (h2.read.below ((Below.refl _ w1).alloc (Nat.le_refl _) _) (Nat.le_refl _)).mono (by rw [World.size_alloc]; omega)
end Go.Proofs.YtamholmjppgfiaaGreatDoor
