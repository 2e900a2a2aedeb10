/- ViewNil: a nil view, and the law's own walk. -/
import Derived.Test.YtponmnabbieafaaGreatDoorVwU
import Derived.Test.YtponmnabbieafaaGreatDoorVwL
import Derived.Test.YtponmnabbieafaaGreatDoorBufO
import Derived.Test.YtponmnabbieafaaGreatDoorEqW
set_option linter.unusedVariables false
set_option linter.unusedSimpArgs false
namespace Go.Proofs.YtponmnabbieafaaGreatDoor
open Go Go.RowKit Go.Shelf Go.Lib Go.Sort

theorem rnew12_any (us : List Int) (v : Value) (w : World) (hU : U32 w w.heap.size v us) (hl : us.length ≤ 1000000) :
    Calls Tryz.prog 8 #[v] w fun e w' => ∃ v', e = .returned v' ∧ B32 w' w.heap.size v' (srtU us) ∧ Below w.heap.size w w' := by
  have HS := Lib.hid (ref_sorted us v w hU hl)
  clear hU
  go_enter Tryz.func8, Tryz.ntmps8
  go_wp2_with fail
  refine HS.out.mono ?_
  rintro e w1 ⟨v1, rfl, hb, hbel⟩
  have HB := Lib.hid (And.intro hb hbel)
  clear hb hbel
  go_wp2_with fail
  go_ret
  exact ⟨v1, rfl, HB.out⟩
theorem EvR.below2 {W W' : World} {ev : Value} {E : List Ev} {eb n : Nat} (h : EvR W ev E eb) (hb : Below n W W') (hn : E.length = 0 ∨ eb < n) : EvR W' ev E eb := by
  obtain ⟨p, eo, cap, e, h1, h2⟩ := h
  refine ⟨p, eo, cap, e, h1, fun i hi => ?_⟩
  have hlt := hn.resolve_left (by omega)
  obtain ⟨q0, q1, q2⟩ := h2 i hi
  exact ⟨(hb.cell (p := ⟨eb, _, none⟩) hlt).trans q0, (hb.cell (p := ⟨eb, _, none⟩) hlt).trans q1, (hb.cell (p := ⟨eb, _, none⟩) hlt).trans q2⟩
theorem none_at (q : Int) (w : World) : Calls Tryz.prog 15 #[.pointer none, .int .i64 q] w fun e w' => e = .returned (.tuple #[.int .u32 0, .bool false]) ∧ w = w' := by
  go_enter Tryz.func15, Tryz.ntmps15
  go_wp2_with fail
  go_ret2
  exact ⟨rfl, rfl⟩
theorem none_len (w : World) : Calls Tryz.prog 14 #[.pointer none] w fun e w' => e = .returned (.int .i64 0) ∧ w = w' := by
  go_enter Tryz.func14, Tryz.ntmps14
  go_wp2_with fail
  go_ret
  exact ⟨rfl, rfl⟩
theorem none_seq (q : Int) (w : World) : Calls Tryz.prog 16 #[.pointer none, .int .u32 q] w fun e w' => e = .returned (.int .i64 0) ∧ w = w' := by
  go_enter Tryz.func16, Tryz.ntmps16
  go_wp2_with fail
  go_ret
  exact ⟨rfl, rfl⟩
theorem none_uids (w : World) : Calls Tryz.prog 13 #[.pointer none] w fun e w' => e = .returned (.slice none 0 0) ∧ w = w' := by
  go_enter Tryz.func13, Tryz.ntmps13
  go_wp2_with fail
  go_ret
  exact ⟨rfl, rfl⟩
set_option maxHeartbeats 1000000 in
theorem none_apply (A : Option Addr) (n c : Nat) (w : World) : Calls Tryz.prog 11 #[.pointer none, .slice A n c] w fun e w' => e = .returned (.slice none 0 0) ∧ Below w.heap.size w w' := by
  have hb : Below w.heap.size w ((w.alloc (.cells #[.pointer none] 25))) := (Below.refl _ w).alloc (Nat.le_refl _) _
  go_enter Tryz.func11, Tryz.ntmps11
  go_wp2_with fail
  go_ret
  exact ⟨rfl, hb⟩
/-- A row that is none of the view's is written. -/
theorem VwM.row {W : World} {B vb ib : Nat} {v : Value} {l : List Int} {g : Bool} (h : VwM W B vb ib v l g) {p : Addr} (hp : p.block < B) (u : Value) : VwM (W.setCell p u) B vb ib v l g :=
  h.only (R := p.block) (fun k hk => Below.heap_setCell W p u k hk) (by simp [World.setCell]) (fun e => by have := h.2.2.2.2; omega) (fun e => by have := h.2.1.2.2.2; omega) (fun e => by have := (h.2.1.own_lt _ e).2; omega)
theorem VwM.past {W : World} {B vb ib : Nat} {v : Value} {l : List Int} {g : Bool} (h : VwM W B vb ib v l g) {W' : World} {S : Nat} (hs : W.heap.size ≤ S) (hk : ∀ k, k < S → W'.heap[k]? = W.heap[k]?) (hS : W.heap.size ≤ W'.heap.size) : VwM W' B vb ib v l g := by
  have := h.1.lt
  have := h.2.1.1.lt
  refine ⟨(hk vb (by omega)).trans h.1, ⟨(hk ib (by omega)).trans h.2.1.1, h.2.1.2.1.kept hS fun k h1 _ => hk k (by omega), h.2.1.2.2⟩, h.2.2⟩
theorem b32_shape {W : World} {B n : Nat} {v : Value} {l : List Int} (h : B32 W B v l) (hn : l.length = n) : ∃ A c, v = .slice A n c ∧ (0 < n → ∃ g o, A = some ⟨g, o, none⟩) := by
  subst hn
  rcases h.2 with ⟨rfl, e⟩ | ⟨g, off, cap, rfl, _⟩
  · exact ⟨none, 0, by rw [e], fun h0 => by omega⟩
  · exact ⟨_, cap, rfl, fun _ => ⟨g, off, rfl⟩⟩
/-- One element of an own row of numbers, and what a write of it leaves. -/
theorem b32_at {W : World} {B n g o c : Nat} {l : List Int} (h : B32 W B (.slice (some ⟨g, o, none⟩) n c) l) (hn : l.length = n) (k : Nat) (hk : k < n) : ∃ y, W.cell? ⟨g, o + k, none⟩ = some (.int .u32 y) ∧ W.frozen? ⟨g, o + k, none⟩ = false ∧ B ≤ g ∧ g < W.heap.size ∧
    ∀ z, B32 (W.setCell ⟨g, o + k, none⟩ (.int .u32 z)) B (.slice (some ⟨g, o, none⟩) n c) (l.set k z) := by
  subst hn
  have h1 := h
  rcases h.2 with ⟨e, _⟩ | ⟨g', off', cap', e, h2, h3, h4, h5, h6⟩
  · cases e
  · injection e with e1 _ e3
    injection e1 with e1
    injection e1 with e4 e5 _
    subst e4 e5 e3
    refine ⟨l[k], h5 k _ (by rw [List.getElem?_map, List.getElem?_eq_getElem hk]; rfl), (h6 k (by omega)).2, h2, h3, fun z => ?_⟩
    have := h1.setAt k (by omega) (.int .u32 z)
    unfold B32
    rw [List.length_set, List.map_set]
    exact this

set_option maxRecDepth 100000 in
set_option maxHeartbeats 6400000 in
theorem viewNil_run (us : List Int) (pe : Option Addr) (q ce : Nat) (vu : Value) (w : World) (hU : U32 w w.heap.size vu us) (h0 : ∀ x ∈ us, 0 ≤ x) :
    Calls Tryz.prog 5 #[vu, .slice pe q ce] w fun e w' => e = .returned (.bool true) ∧ Below w.heap.size w w' := by
  have HA := Lib.hid (fun W => alive_any W)
  obtain ⟨Au, cu, rfl, -, -⟩ := id hU
  obtain ⟨n, hn⟩ : ∃ n, us.length = n := ⟨_, rfl⟩
  by_cases h1 : 60 < n
  · have h1I : (60 : Int) < n := by omega
    have h1d : decide ((60 : Int) < n) = true := decide_eq_true h1I
    rw [hn]
    clear hU h0 hn
    go_enter Tryz.func5, Tryz.ntmps5
    go_wp2_with fail
    refine (HA.out _).mono ?_
    rintro e w1 ⟨rfl, hb⟩
    have HB := Lib.hid hb
    clear hb
    go_wp2_with fail
    go_ret
    exact ⟨rfl, HB.out⟩
  have h1I : ¬ ((60 : Int) < n) := by omega
  have h1d : decide ((60 : Int) < n) = false := decide_eq_false h1I
  by_cases h2 : 60 < q
  · have h2I : (60 : Int) < q := by omega
    have h2d : decide ((60 : Int) < q) = true := decide_eq_true h2I
    rw [hn]
    clear hU h0 hn
    go_enter Tryz.func5, Tryz.ntmps5
    go_wp2_with fail
    refine (HA.out _).mono ?_
    rintro e w1 ⟨rfl, hb⟩
    have HB := Lib.hid hb
    clear hb
    go_wp2_with fail
    go_ret
    exact ⟨rfl, HB.out⟩
  have h2I : ¬ ((60 : Int) < q) := by omega
  have h2d : decide ((60 : Int) < q) = false := decide_eq_false h2I
  -- the copy
  have hb0 : Below w.heap.size w (w.alloc (.cells #[] 35)) := (Below.refl _ w).alloc (Nat.le_refl _) _
  obtain ⟨-, hsrc⟩ := u32_src hU hb0
  obtain ⟨v1, w1, hr1, hbuf1, -, hb1, -⟩ := chain_run (c := cu) (empty_buf (W := w) (base := w.heap.size) (Nat.le_refl _) 35) hsrc (by rw [World.size_alloc]; omega) (by omega)
  rw [Nat.zero_add, List.nil_append] at hbuf1
  have hb32 : B32 w1 w.heap.size v1 us := hbuf1
  obtain ⟨A1, c1, rfl, hA1⟩ := b32_shape hb32 hn
  have hbel1 := hb0.trans hb1
  have HR1 := Lib.hid hr1
  have HN := Lib.hid (vnew_mut us (.slice A1 n c1) w1 (U32.of_buf hbuf1) (by omega) h0)
  have HR := Lib.hid (fun W (hb : Below w.heap.size w W) => rnew12_any us (.slice Au us.length cu) W ((hU.below hb (Nat.le_refl _)).mono hb.size) (by omega))
  have hsl : (srtU us).length ≤ 60 := Nat.le_trans (srtU_len us) (by omega)
  obtain ⟨vl, hvl⟩ : ∃ vl, srtU us = vl := ⟨_, rfl⟩
  rw [hvl] at HN HR hsl
  rw [hn] at HR HR1
  rw [hn]
  have H1 := Lib.hid (And.intro hb32 (And.intro hbel1 (And.intro hn (And.intro hA1 hsl))))
  clear hU h0 hn hvl hb0 hsrc hr1 hbuf1 hb1 hb32 hbel1 hA1
  obtain ⟨x, hx⟩ : ∃ x, vl.length = x := ⟨_, rfl⟩
  have hxI : (x : Int) ≤ 60 := by omega
  have HX := Lib.hid hx
  clear hx
  go_enter Tryz.func5, Tryz.ntmps5
  go_wp2_with (at_builtin; refine wpList_append_run _ rfl (.tmp 22) (.tmp 23) _ _ rfl _ _ rfl rfl _ _ HR1.out ?_)
  refine HN.out.mono ?_
  rintro e w2 ⟨vb, ib, sv, rfl, hv2, hb2⟩
  have H2 := Lib.hid (show B32 w2 w.heap.size (.slice A1 n c1) us ∧ VwM w2 w1.heap.size vb ib sv vl false ∧ Below w.heap.size w w2 ∧ w1.heap.size ≤ w2.heap.size from ⟨H1.out.1.below hb2 (Nat.le_refl _), hv2, H1.out.2.1.trans (hb2.mono H1.out.2.1.size), hb2.size⟩)
  clear hv2 hb2
  go_wp2_with fail
  go_loopw [31] (fun i wr => ∃ (k : Nat) (ys : List Int), k ≤ n ∧ ys.length = n ∧ i = .int .i64 k ∧ B32 wr w.heap.size (.slice A1 n c1) ys ∧ VwM wr w1.heap.size vb ib sv vl false ∧ Below w.heap.size w wr ∧ ∀ j, A1 = some j → j.block < w1.heap.size) (fun i _ => n - (intOf i).toNat)
  case atStart => exact ⟨0, us, Nat.zero_le _, H1.out.2.2.1, rfl, H2.out.1, H2.out.2.1, H2.out.2.2.1, fun j e => own_lt H1.out.1 j.block (by subst e; rfl)⟩
  case round =>
    obtain ⟨k, ys, hk, hys, rfl, hbuf, hvw, hbel, hgl⟩ := hrel
    have hkI : (k : Int) ≤ n := by omega
    by_cases hlt : k < n
    · have hltI : (k : Int) < n := by omega
      obtain ⟨g, o, rfl⟩ := H1.out.2.2.2.1 (by omega)
      obtain ⟨y, hc, hf, hBg, hgs, hset⟩ := b32_at hbuf hys k hlt
      have hg1 : g < w1.heap.size := hgl _ rfl
      have HB := Lib.hid (And.intro hset (And.intro hvw (And.intro hbel (And.intro hBg (And.intro hys hgl)))))
      clear hset hvw hbel hBg hys hbuf hgl
      go_wp2_with fail
      go_roundw
      case rel =>
        refine ⟨k + 1, _, by omega, ?_, by go_num, HB.out.1 _, HB.out.2.1.row (by exact hg1) _, HB.out.2.2.1.setCell (by exact HB.out.2.2.2.1) _, HB.out.2.2.2.2.2⟩
        rw [List.length_set]; exact HB.out.2.2.2.2.1
      case measure => simp [intOf]; omega
    · obtain rfl : k = n := by omega
      have HU := Lib.hid (uidsv_any vb vl wr hvw.vwr (by omega))
      have H3 := Lib.hid (And.intro hvw hbel)
      clear hbuf hvw hbel hgl hys
      go_wp2_with fail
      refine HU.out.mono ?_
      rintro e w3 ⟨v3, rfl, hbx, hb3⟩
      obtain ⟨A3, c3, rfl, hA3⟩ := b32_shape hbx HX.out
      have H4 := Lib.hid (show B32 w3 wr.heap.size (.slice A3 x c3) vl ∧ VwM w3 w1.heap.size vb ib sv vl false ∧ Below w.heap.size w w3 ∧ (0 < x → ∃ g o, A3 = some ⟨g, o, none⟩) from ⟨hbx, H3.out.1.below hb3 (Nat.le_refl _), H3.out.2.trans (hb3.mono H3.out.2.size), hA3⟩)
      have hws : w.heap.size ≤ wr.heap.size := H3.out.2.size
      have hvo := H3.out.1
      clear hbx hb3 hA3
      go_wp2_with fail
      go_loopw [45] (fun i wq => ∃ (k : Nat) (ys : List Int), k ≤ x ∧ ys.length = x ∧ i = .int .i64 k ∧ B32 wq wr.heap.size (.slice A3 x c3) ys ∧ VwM wq w1.heap.size vb ib sv vl false ∧ Below w.heap.size w wq) (fun i _ => x - (intOf i).toNat)
      case atStart => exact ⟨0, vl, Nat.zero_le _, HX.out, rfl, H4.out.1, H4.out.2.1, H4.out.2.2.1⟩
      case round =>
        obtain ⟨k, ys, hk, hys, rfl, hbuf, hvw, hbel⟩ := hrel
        have hkI : (k : Int) ≤ x := by omega
        by_cases hlt : k < x
        · have hltI : (k : Int) < x := by omega
          obtain ⟨g, o, rfl⟩ := H4.out.2.2.2 (by omega)
          obtain ⟨y, hc, hf, hBg, hgs, hset⟩ := b32_at hbuf hys k hlt
          have HB := Lib.hid (And.intro hset (And.intro hvw (And.intro hbel (And.intro hBg (And.intro hys hvo)))))
          clear hset hvw hbel hBg hys hbuf hvo
          go_wp2_with fail
          go_roundw
          case rel =>
            refine ⟨k + 1, _, by omega, ?_, by go_num, HB.out.1 _, ?_, HB.out.2.2.1.setCell (by show w.heap.size ≤ g; have := HB.out.2.2.2.1; omega) _⟩
            · rw [List.length_set]; exact HB.out.2.2.2.2.1
            · have hvo := HB.out.2.2.2.2.2
              have hg := HB.out.2.2.2.1
              exact HB.out.2.1.only (R := g) (fun k hk => Below.heap_setCell _ ⟨g, _, none⟩ _ k hk) (by simp [World.setCell]) (fun e => by have := hvo.1.lt; omega) (fun e => by have := hvo.2.1.1.lt; omega) (fun e => by have := (hvo.2.1.own_lt _ e).1; omega)
          case measure => simp [intOf]; omega
        · obtain rfl : k = x := by omega
          have H5 := Lib.hid (And.intro hvw hbel)
          clear hbuf hvw hbel hys hvo
          go_wp2_with fail
          refine (none_at 1 _).mono ?_
          rintro e w4 ⟨rfl, rfl⟩
          go_wp2_with fail
          refine (HA.out _).mono ?_
          rintro e w6 ⟨rfl, hb6⟩
          have H6 := Lib.hid (And.intro (H5.out.1.below hb6 (Nat.le_refl _)) (H5.out.2.trans (hb6.mono H5.out.2.size)))
          clear hb6
          go_wp2_with fail
          refine (uidsv_any vb vl _ H6.out.1.vwr (by have := HX.out; omega)).mono ?_
          rintro e w7 ⟨v7, rfl, hB7, hb7⟩
          have H7 := Lib.hid (And.intro (Rd1.of_buf hB7) (H6.out.2.trans (hb7.mono H6.out.2.size)))
          clear hB7 hb7
          go_wp2_with fail
          refine (HR.out _ H7.out.2).mono ?_
          rintro e w8 ⟨v8, rfl, hB8, hb8⟩
          have H8 := Lib.hid (And.intro (Rd1.of_buf hB8) (And.intro (H7.out.1.below hb8 (Nat.le_refl _)) (H7.out.2.trans (hb8.mono H7.out.2.size))))
          clear hB8 hb8
          go_wp2_with fail
          refine (eq_u32 H8.out.2.1 H8.out.1 (by have := HX.out; omega) (by have := HX.out; omega)).mono ?_
          rintro e w9 ⟨rfl, qq, rfl⟩
          have H9 := Lib.hid (show Below w.heap.size w (w8.drewN qq) from drewn_below H8.out.2.2 qq)
          simp only [decide_true]
          go_wp2_with fail
          refine (none_len _).mono ?_
          rintro e w10 ⟨rfl, rfl⟩
          go_wp2_with fail
          refine (none_seq 1 _).mono ?_
          rintro e w10 ⟨rfl, rfl⟩
          go_wp2_with fail
          refine (none_uids _).mono ?_
          rintro e w10 ⟨rfl, rfl⟩
          go_wp2_with fail
          refine (none_apply pe q ce _).mono ?_
          rintro e w10 ⟨rfl, hb10⟩
          have H10 := Lib.hid (H9.out.trans (hb10.mono H9.out.size))
          clear hb10
          go_wp2_with fail
          go_ret
          exact ⟨by first | rfl | (simp; done), H10.out⟩
theorem viewNil_walk (us : List Int) (E : List Ev) (eb : Nat) (pe : Option Addr) (ce : Nat) (vu : Value) (w : World) (hU : U32 w w.heap.size vu us) (_ : E.length ≤ ce) (_ : EvR w (.slice pe E.length ce) E eb) (_ : E.length = 0 ∨ eb < w.heap.size) (_ : ∀ e ∈ E, e.uid < 4294967296) (h0 : ∀ x ∈ us, 0 ≤ x) :
    Calls Tryz.prog 5 #[vu, .slice pe E.length ce] w fun e w' => e = .returned (.bool true) ∧ Below w.heap.size w w' := viewNil_run us pe E.length ce vu w hU h0
end Go.Proofs.YtponmnabbieafaaGreatDoor
