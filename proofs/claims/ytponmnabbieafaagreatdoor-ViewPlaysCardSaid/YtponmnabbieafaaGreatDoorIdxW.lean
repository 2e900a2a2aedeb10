/- Indexes and views in memory: Len, At, find, Pos. -/
import Derived.Test.YtponmnabbieafaaGreatDoorRan33
import Derived.Test.YtponmnabbieafaaGreatDoorShelfC
import Derived.Test.YtponmnabbieafaaGreatDoorRgB
set_option linter.unusedVariables false
set_option linter.unusedSimpArgs false
namespace Go.Proofs.YtponmnabbieafaaGreatDoor
open Go Go.RowKit Go.Shelf Go.Lib Go.Sort

/-- The index at block b reads as the list l; all of it lies below B. -/
def IdxR (W : World) (B b : Nat) (l : List Int) : Prop := ∃ v, W.cell? ⟨b, 0, none⟩ = some v ∧ b < B ∧ U32 W B v l
theorem IdxR.below {W W' : World} {B n b : Nat} {l : List Int} (h : IdxR W B b l) (hb : Below n W W') (hn : B ≤ n) : IdxR W' B b l := by
  obtain ⟨v, h1, h2, h3⟩ := h
  exact ⟨v, (hb.cell (p := ⟨b, 0, none⟩) (Nat.lt_of_lt_of_le h2 hn)).trans h1, h2, h3.below hb hn⟩
theorem IdxR.mono {W : World} {B B' b : Nat} {l : List Int} (h : IdxR W B b l) (hB : B ≤ B') : IdxR W B' b l := by
  obtain ⟨v, h1, h2, h3⟩ := h
  exact ⟨v, h1, by omega, h3.mono hB⟩
theorem Idx.read {w : World} {base b : Nat} {l : List Int} (h : Idx w base b l) : IdxR w w.heap.size b l := by
  obtain ⟨v, h1, h2, -⟩ := h
  exact ⟨v, h1.cell 0, h1.lt, U32.of_buf h2⟩
/-- How many elements are less. -/
def cntU (l : List Int) (u : Int) : Nat := l.countP fun y => decide (y < u)
def posU (l : List Int) (u : Int) : Nat := if l[cntU l u]? = some u then cntU l u + 1 else 0

set_option maxHeartbeats 1000000 in
theorem find1 (s0 s1 ib b o n cap i : Nat) (x u : Int) (hi : i < n) (W : World) (c0 : W.cell? ⟨s0, 0, none⟩ = some (.pointer (some ⟨ib, 0, none⟩))) (c1 : W.cell? ⟨ib, 0, none⟩ = some (.slice (some ⟨b, o, none⟩) n cap)) (c2 : W.cell? ⟨b, o + i, none⟩ = some (.int .u32 x)) (c3 : W.cell? ⟨s1, 0, none⟩ = some (.int .u32 u)) :
    Calls Tryz.prog 48 #[.int .i64 i, .pointer (some ⟨s0, 0, none⟩), .pointer (some ⟨s1, 0, none⟩)] W fun e w' => e = .returned (.bool (decide (u ≤ x))) ∧ ∃ q, w' = W.drewN q := by
  have hiI : (i : Int) < n := by omega
  go_enter Tryz.func48, Tryz.ntmps48
  go_wp2_with fail
  go_quiet (fail)
  go_wp2_with fail
  go_ret
  exact ⟨rfl, _, rfl⟩
theorem countP_rangeU (l : List Int) (u : Int) : (List.range l.length).countP (fun i => !decide (u ≤ l[i]!)) = cntU l u := by
  unfold cntU
  have h := Lib.countP_range l.toArray (fun y => decide (y < u))
  simp only [List.size_toArray] at h
  rw [← show l.toArray.toList = l from rfl]
  rw [← h]
  apply List.countP_congr
  intro i hi
  have hi' : i < l.length := by simpa using hi
  simp [getElem!_pos, hi']
set_option maxHeartbeats 1000000 in
theorem find_any (ib : Nat) (l : List Int) (u : Int) (w : World) (h : IdxR w w.heap.size ib l) (ha : asc l) (hl : l.length ≤ 1048576) :
    Calls Tryz.prog 41 #[.pointer (some ⟨ib, 0, none⟩), .int .u32 u] w fun e w' => e = .returned (.int .i64 (cntU l u : Nat)) ∧ Below w.heap.size w w' := by
  obtain ⟨v, h1, h2, A, cap, rfl, h4, h5⟩ := h
  obtain ⟨W0, hW0⟩ : ∃ W0, (w.alloc (.cells #[.pointer (some ⟨ib, 0, none⟩)] 50)).alloc (.cells #[.int .u32 u] 35) = W0 := ⟨_, rfl⟩
  have hz : W0.heap.size = w.heap.size + 2 := by rw [← hW0, World.size_alloc, World.size_alloc]
  have hb0 : Below w.heap.size w W0 := by rw [← hW0]; exact ((Below.refl _ w).alloc (Nat.le_refl _) _).alloc (by rw [World.size_alloc]; omega) _
  have b0 : W0.cell? ⟨w.heap.size, 0, none⟩ = some (.pointer (some ⟨ib, 0, none⟩)) := by
    have := ((Boxed.new w 50 (.pointer (some ⟨ib, 0, none⟩))).alloc (.cells #[.int .u32 u] 35)).cell
    rw [hW0] at this
    exact this
  have b1 : W0.cell? ⟨w.heap.size + 1, 0, none⟩ = some (.int .u32 u) := by
    have := (Boxed.new (w.alloc (.cells #[.pointer (some ⟨ib, 0, none⟩)] 50)) 35 (.int .u32 u)).cell
    rw [hW0, World.size_alloc] at this
    exact this
  have c1 : W0.cell? ⟨ib, 0, none⟩ = some (.slice A l.length cap) := (hb0.cell (p := ⟨ib, 0, none⟩) h2).trans h1
  have eg : ∀ args w, (callFunc 48 args).run Tryz.prog w = .ok (.enter 48 args) w := enters_of Tryz.func48 (by kernel_rfl) rfl
  have hcon := Any.sort_Search Tryz.lSearch 48 #[.pointer (some ⟨w.heap.size, 0, none⟩), .pointer (some ⟨w.heap.size + 1, 0, none⟩)] l.length (fun i => decide (u ≤ l[i]!)) W0 eg (by omega)
    (fun m os i hi => by
      obtain ⟨b, o, rfl, h6, h7⟩ := h5 (by omega)
      have c2 : W0.cell? ⟨b, o + i, none⟩ = some (.int .u32 l[i]!) := (hb0.cell (p := ⟨b, o + i, none⟩) h6).trans (h7 i _ (by rw [List.getElem?_eq_getElem hi, getElem!_pos l i hi]))
      refine (find1 w.heap.size (w.heap.size + 1) ib b o l.length cap i l[i]! u hi (grow (W0.drewN m) os) (cell_grown (by rw [hz]; simp only; omega) b0 m os) (cell_grown (by rw [hz]; simp only; omega) c1 m os) (cell_grown (by rw [hz]; simp only; omega) c2 m os) (cell_grown (by rw [hz]; simp only; omega) b1 m os)).mono ?_
      rintro e w' ⟨he, q, rfl⟩
      exact ⟨he, q, #[], by rw [grow_empty]⟩)
    (fun a b hab hb h => by
      have h := of_decide_eq_true h
      rcases Nat.eq_or_lt_of_le hab with rfl | hlt
      · exact decide_eq_true h
      · have := List.pairwise_iff_getElem.1 ha a b (by omega) hb hlt
        rw [getElem!_pos l a (by omega)] at h
        rw [getElem!_pos l b hb]
        exact decide_eq_true (by omega))
  rw [countP_rangeU] at hcon
  change Calls Tryz.prog 47 _ _ _ at hcon
  have HC := Lib.hid hcon
  have HB := Lib.hid hb0
  have HW := Lib.hid hW0
  clear hcon h5 ha b0 b1 hb0 hW0 eg
  generalize l.length = n at *
  go_enter Tryz.func41, Tryz.ntmps41
  go_wp2_with (go_at_call 47; rw [HW.out]; refine HC.out.mono ?_; rintro e w' ⟨rfl, q, os, rfl⟩)
  go_ret
  exact ⟨rfl, HB.out.trans ((⟨rfl, rfl, rfl, Nat.le_refl _, fun _ _ => rfl⟩ : Below _ W0 (W0.drewN q)).trans (grow_below (W0.drewN q) os (by show w.heap.size ≤ W0.heap.size; omega)))⟩

set_option maxHeartbeats 1000000 in
theorem ilen_any (ib : Nat) (l : List Int) (w : World) (h : IdxR w w.heap.size ib l) :
    Calls Tryz.prog 31 #[.pointer (some ⟨ib, 0, none⟩)] w fun e w' => e = .returned (.int .i64 (l.length : Nat)) ∧ w' = w := by
  obtain ⟨v, h1, h2, A, cap, rfl, h4, h5⟩ := h
  clear h5
  generalize l.length = n at *
  go_enter Tryz.func31, Tryz.ntmps31
  go_wp2_with fail
  go_ret
  exact ⟨rfl, rfl⟩
set_option maxHeartbeats 1000000 in
theorem iat_any (ib i : Nat) (l : List Int) (x : Int) (w : World) (h : IdxR w w.heap.size ib l) (hx : l[i]? = some x) (hl : l.length ≤ 1048576) :
    Calls Tryz.prog 32 #[.pointer (some ⟨ib, 0, none⟩), .int .i64 ((i : Int) + 1)] w fun e w' => e = .returned (.tuple #[.int .u32 x, .bool true]) ∧ ∃ q, w' = w.drewN q := by
  obtain ⟨v, h1, h2, A, cap, rfl, h4, h5⟩ := h
  have hi : i < l.length := (List.getElem?_eq_some_iff.1 hx).1
  obtain ⟨b, o, rfl, h6, h7⟩ := h5 (by omega)
  have c2 := h7 i x hx
  clear h5 h7 hx
  generalize l.length = n at *
  have hiI : (i : Int) < n := by omega
  have t1 : decide ((i : Int) + 1 < 1) = false := decide_eq_false (by omega)
  have t1p : ¬ ((i : Int) + 1 < 1) := by omega
  have t2 : decide ((n : Int) < (i : Int) + 1) = false := decide_eq_false (by omega)
  have t2p : ¬ ((n : Int) < (i : Int) + 1) := by omega
  have hw : IntKind.i64.wrap ((i : Int) + 1 - 1) = i := by simp [IntKind.wrap, IntKind.bits, IntKind.signed]; omega
  go_enter Tryz.func32, Tryz.ntmps32
  go_wp2_with fail
  go_ret2
  exact ⟨rfl, 0, rfl⟩
theorem cntU_le (l : List Int) (u : Int) : cntU l u ≤ l.length := List.countP_le_length
set_option maxHeartbeats 1000000 in
theorem pos_any (ib : Nat) (l : List Int) (u : Int) (w : World) (h : IdxR w w.heap.size ib l) (ha : asc l) (hl : l.length ≤ 1048576) :
    Calls Tryz.prog 33 #[.pointer (some ⟨ib, 0, none⟩), .int .u32 u] w fun e w' => e = .returned (.int .i64 (posU l u : Nat)) ∧ Below w.heap.size w w' := by
  have HF := Lib.hid (find_any ib l u w h ha hl)
  have hle := cntU_le l u
  have HU := Lib.hid h
  obtain ⟨k, hk⟩ : ∃ k, cntU l u = k := ⟨_, rfl⟩
  rw [hk] at HF hle
  obtain ⟨r, hr⟩ : ∃ r, posU l u = r := ⟨_, rfl⟩
  have HP : Hid (r = if l[k]? = some u then k + 1 else 0) := Lib.hid (by rw [← hr]; unfold posU; rw [hk])
  rw [hr]
  clear h ha hk hr
  go_enter Tryz.func33, Tryz.ntmps33
  go_wp2_with fail
  refine HF.out.mono ?_
  rintro e w1 ⟨rfl, hb⟩
  obtain ⟨v, h1, h2, A, cap, rfl, h4, h5⟩ := HU.out.below hb (Nat.le_refl _)
  have HB := Lib.hid hb
  clear hb
  by_cases hlt : k < l.length
  · obtain ⟨b, o, rfl, h6, h7⟩ := h5 (by omega)
    obtain ⟨x, hx⟩ : ∃ x, l[k]? = some x := ⟨_, List.getElem?_eq_getElem hlt⟩
    have c2 := h7 k x hx
    rw [hx] at HP
    clear h5 h7 hx HU HF
    generalize l.length = n at *
    have hltI : (k : Int) < n := by omega
    have hkw : IntKind.i64.wrap ((k : Int) + 1) = (k : Int) + 1 := by simp [IntKind.wrap, IntKind.bits, IntKind.signed]; omega
    by_cases hxu : x = u
    · subst hxu
      go_wp2_with fail
      go_ret
      exact ⟨by have h := HP.out; simp at h; subst h; rfl, HB.out⟩
    · have hxz : (x == u) = false := by simpa using hxu
      go_wp2_with fail
      go_ret
      exact ⟨by have h := HP.out; simp [hxu] at h; subst h; rfl, HB.out⟩
  · rw [List.getElem?_eq_none (by omega)] at HP
    clear h5 HU HF
    have hltI : decide ((k : Int) < l.length) = false := decide_eq_false (by omega)
    have hltp : ¬ ((k : Int) < l.length) := by omega
    go_wp2_with fail
    go_ret
    exact ⟨by have h := HP.out; simp at h; subst h; rfl, HB.out⟩

/-- A view reads as the list l; all of it lies below B. -/
def VwR (W : World) (B : Nat) (p : Option Addr) (l : List Int) : Prop := (p = none ∧ l = []) ∨ ∃ vb ib, p = some ⟨vb, 0, none⟩ ∧ vb < B ∧ W.cell? ⟨vb, 0, none⟩ = some (.pointer (some ⟨ib, 0, none⟩)) ∧ IdxR W B ib l
theorem VwR.below {W W' : World} {B n : Nat} {p : Option Addr} {l : List Int} (h : VwR W B p l) (hb : Below n W W') (hn : B ≤ n) : VwR W' B p l := by
  rcases h with h | ⟨vb, ib, h1, h2, h3, h4⟩
  · exact .inl h
  · exact .inr ⟨vb, ib, h1, h2, (hb.cell (p := ⟨vb, 0, none⟩) (Nat.lt_of_lt_of_le h2 hn)).trans h3, h4.below hb hn⟩
theorem VwR.mono {W : World} {B B' : Nat} {p : Option Addr} {l : List Int} (h : VwR W B p l) (hB : B ≤ B') : VwR W B' p l := by
  rcases h with h | ⟨vb, ib, h1, h2, h3, h4⟩
  · exact .inl h
  · exact .inr ⟨vb, ib, h1, by omega, h3, h4.mono hB⟩
set_option maxHeartbeats 1000000 in
theorem vlen_any (p : Option Addr) (l : List Int) (w : World) (h : VwR w w.heap.size p l) :
    Calls Tryz.prog 14 #[.pointer p] w fun e w' => e = .returned (.int .i64 (l.length : Nat)) ∧ w' = w := by
  rcases h with ⟨rfl, rfl⟩ | ⟨vb, ib, rfl, h2, h3, h4⟩
  · go_enter Tryz.func14, Tryz.ntmps14
    go_wp2_with fail
    go_ret
    exact ⟨rfl, rfl⟩
  · have HL := Lib.hid (ilen_any ib l w h4)
    clear h4
    go_enter Tryz.func14, Tryz.ntmps14
    go_wp2_with fail
    refine HL.out.mono ?_
    rintro e w' ⟨rfl, rfl⟩
    go_wp2_with fail
    go_ret
    exact ⟨rfl, rfl⟩
set_option maxHeartbeats 1000000 in
theorem vat_any (p : Option Addr) (i : Nat) (l : List Int) (x : Int) (w : World) (h : VwR w w.heap.size p l) (hx : l[i]? = some x) (hl : l.length ≤ 1048576) :
    Calls Tryz.prog 15 #[.pointer p, .int .i64 ((i : Int) + 1)] w fun e w' => e = .returned (.tuple #[.int .u32 x, .bool true]) ∧ ∃ q, w' = w.drewN q := by
  rcases h with ⟨rfl, rfl⟩ | ⟨vb, ib, rfl, h2, h3, h4⟩
  · simp at hx
  · have HL := Lib.hid (iat_any ib i l x w h4 hx hl)
    clear h4 hx
    go_enter Tryz.func15, Tryz.ntmps15
    go_wp2_with fail
    refine HL.out.mono ?_
    rintro e w' ⟨rfl, q, rfl⟩
    go_wp2_with fail
    go_ret2
    exact ⟨rfl, q, rfl⟩
set_option maxHeartbeats 1000000 in
theorem vseq_any (p : Option Addr) (u : Int) (l : List Int) (w : World) (h : VwR w w.heap.size p l) (ha : asc l) (hl : l.length ≤ 1048576) :
    Calls Tryz.prog 16 #[.pointer p, .int .u32 u] w fun e w' => e = .returned (.int .i64 (posU l u : Nat)) ∧ Below w.heap.size w w' := by
  rcases h with ⟨rfl, rfl⟩ | ⟨vb, ib, rfl, h2, h3, h4⟩
  · go_enter Tryz.func16, Tryz.ntmps16
    go_wp2_with fail
    go_ret
    exact ⟨rfl, Below.refl _ _⟩
  · have HL := Lib.hid (pos_any ib l u w h4 ha hl)
    clear h4 ha
    go_enter Tryz.func16, Tryz.ntmps16
    go_wp2_with fail
    refine HL.out.mono ?_
    rintro e w' ⟨rfl, hb⟩
    go_wp2_with fail
    go_ret
    exact ⟨rfl, hb⟩
set_option maxHeartbeats 1000000 in
theorem vnew_any (l : List Int) (A : Option Addr) (cap : Nat) (w : World) (hU : U32 w w.heap.size (.slice A l.length cap) l) (hl : l.length ≤ 1048576) (h0 : ∀ x ∈ l, 0 ≤ x) :
    Calls Tryz.prog 7 #[.slice A l.length cap] w fun e w' => ∃ p, e = .returned (.pointer p) ∧ VwR w' w'.heap.size p (srtU l) ∧ Below w.heap.size w w' := by
  have HN := Lib.hid (new_any l A cap w hU hl h0)
  clear hU h0
  generalize l.length = n at *
  go_enter Tryz.func7, Tryz.ntmps7
  go_wp2_with fail
  refine HN.out.mono ?_
  rintro e w1 ⟨b, rfl, h1, h2, h3⟩
  have H1 := Lib.hid (And.intro h1 (And.intro h2 h3))
  clear h1 h2 h3
  go_wp2_with fail
  go_ret
  obtain ⟨h1, h2, h3⟩ := H1.out
  refine ⟨_, rfl, .inr ⟨w1.heap.size, b, rfl, by rw [World.size_alloc]; omega, (Blk.made w1 53 _).cell 0, ?_⟩, h3.alloc h3.size _⟩
  exact (h2.read.below ((Below.refl _ w1).alloc (Nat.le_refl _) _) (Nat.le_refl _)).mono (by rw [World.size_alloc]; omega)
end Go.Proofs.YtponmnabbieafaaGreatDoor
