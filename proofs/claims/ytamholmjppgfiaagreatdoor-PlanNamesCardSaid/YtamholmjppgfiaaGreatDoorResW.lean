/- resolve.each, and the functions that are handed to it. -/
import Derived.Test.YtamholmjppgfiaaGreatDoorIdxW
import Derived.Test.YtamholmjppgfiaaGreatDoorRgE
set_option linter.unusedVariables false
set_option linter.unusedSimpArgs false
namespace Go.Proofs.YtamholmjppgfiaaGreatDoor
open Go Go.RowKit Go.Shelf Go.Lib Go.Sort

/-- The slice value v reads as the cells ys, one an element, in a block below B. -/
def Rd1 (W : World) (B : Nat) (v : Value) (ys : List Value) : Prop :=
  ∃ A cap, v = .slice A ys.length cap ∧ ys.length ≤ cap ∧ (0 < ys.length → ∃ b o, A = some ⟨b, o, none⟩ ∧ b < B ∧ ∀ j u, ys[j]? = some u → W.cell? ⟨b, o + j, none⟩ = some u)
theorem Rd1.below {W W' : World} {B n : Nat} {v : Value} {l : List Value} (h : Rd1 W B v l) (hb : Below n W W') (hn : B ≤ n) : Rd1 W' B v l := by
  obtain ⟨A, cap, e, h1, h2⟩ := h
  exact ⟨A, cap, e, h1, fun h0 => by
    obtain ⟨b, o, e2, h3, h4⟩ := h2 h0
    exact ⟨b, o, e2, h3, fun j u hj => (hb.cell (p := ⟨b, o + j, none⟩) (Nat.lt_of_lt_of_le h3 hn)).trans (h4 j u hj)⟩⟩
theorem Rd1.mono {W : World} {B B' : Nat} {v : Value} {l : List Value} (h : Rd1 W B v l) (hB : B ≤ B') : Rd1 W B' v l := by
  obtain ⟨A, cap, e, h1, h2⟩ := h
  exact ⟨A, cap, e, h1, fun h0 => by
    obtain ⟨b, o, e2, h3, h4⟩ := h2 h0
    exact ⟨b, o, e2, by omega, h4⟩⟩
theorem Rd1.of_buf {W : World} {base n : Nat} {v : Value} {l : List Value} (h : Buf W base 1 v n l) : Rd1 W W.heap.size v l := by
  have hn := h.1
  rw [Nat.mul_one] at hn
  subst hn
  rcases h.2 with ⟨rfl, h0⟩ | ⟨g, off, cap, rfl, h1, h2, h3, h4, -⟩
  · exact ⟨none, 0, by rw [h0], by omega, fun h => by omega⟩
  · exact ⟨_, cap, rfl, h3, fun _ => ⟨g, off, rfl, h2, h4⟩⟩
theorem Rd1.of_u32 {W : World} {B : Nat} {v : Value} {l : List Int} (h : U32 W B v l) : Rd1 W B v (l.map (Value.int .u32)) := by
  obtain ⟨A, cap, e, h1, h2⟩ := h
  refine ⟨A, cap, by rw [List.length_map]; exact e, by rw [List.length_map]; exact h1, fun h0 => ?_⟩
  rw [List.length_map] at h0
  obtain ⟨b, o, e2, h3, h4⟩ := h2 h0
  refine ⟨b, o, e2, h3, fun j u hj => ?_⟩
  rw [List.getElem?_map] at hj
  cases hx : l[j]? with
  | none => rw [hx] at hj; cases hj
  | some x => rw [hx] at hj; injection hj with hj; subst hj; exact h4 j x hx

/-- 'out = append(out, x)', one cell an element. -/
theorem push_one {T E : TypeId} {z : Value} {by_ : Nat} (hT : Tryz.prog.underlying T = some (.slice E)) (hinfo : (Tryz.prog.info? E).map (fun i => (i.zero, i.size, i.bytes)) = some (some z, 1, by_)) (hzc : z.cells.size = 1) (hby : by_ ≤ 16)
    {base k : Nat} {v : Value} {xs : List Value} {W : World} (h : Buf W base 1 v k xs) (u : Value) (hu : u.oneCell' = true) (hb : base ≤ W.heap.size) (hl : k ≤ 1048576) :
    ∃ g o c w', (Builtin.append_ #[T, T] T #[v, .slice (some ⟨W.heap.size, 0, none⟩) 1 1]).run Tryz.prog (W.alloc (.cells #[u] E)) = .ok (.slice (some ⟨g, o, none⟩) (k + 1) c) w' ∧
      Buf w' base 1 (.slice (some ⟨g, o, none⟩) (k + 1) c) (k + 1) (xs ++ [u]) ∧ Below base W w' := by
  obtain ⟨i0, hi, hz0, hz1, hz2⟩ := info_parts hinfo
  have hw : ∀ j, v.ownBlock = some j → base ≤ j := fun j e => by
    rcases h.2 with ⟨rfl, _⟩ | ⟨g, off, cap, rfl, h1, _⟩
    · cases e
    · have e' : g = j := by simpa [Value.ownBlock] using e
      omega
  obtain ⟨v', w', hrun, hb', hgr, -⟩ := run_append_buf (P := Tryz.prog) (W.alloc (.cells #[u] E)) T T E i0 _ 1 by_ hT hi hz0 hz1 hz2 hzc (by decide) base v k _ (h.past _) (some ⟨W.heap.size, 0, none⟩) 1 1 [u]
    ⟨rfl, fun y hy => by simp at hy; subst hy; exact hu, fun _ => ⟨_, rfl, fun j y hj => by
      rw [Go.WideShapes.add_plain]
      simp only [World.cell?, heap_alloc_new, Nat.zero_add]
      simpa using hj⟩⟩ (by unfold maxLen; omega) (by have : (k + 1) * by_ ≤ 1048577 * 16 := Nat.mul_le_mul (by omega) hby; omega) (by rw [World.size_alloc]; omega)
  have hbel : Below base W w' := ((Below.refl _ W).alloc hb _).grown hgr (by rw [World.size_alloc]; omega) hw
  obtain ⟨g, o, c, rfl⟩ := buf_pos hb'
  exact ⟨g, o, c, w', hrun, hb', hbel⟩
theorem infoI64 : (Tryz.prog.info? 3).map (fun i => (i.zero, i.size, i.bytes)) = some (some (.int .i64 0), 1, 8) := by kernel_rfl

set_option maxHeartbeats 400000 in
theorem conv_any (x : Nat) (hx : x < 4294967296) (w : World) : Calls Tryz.prog 81 #[.int .u32 x] w fun e w' => e = .returned (.int .i64 x) ∧ Below w.heap.size w w' := by
  have hw : IntKind.i64.wrap (x : Int) = x := by simp [IntKind.wrap, IntKind.bits, IntKind.signed]; omega
  go_enter Tryz.func81, Tryz.ntmps81
  go_wp2_with fail
  go_ret
  exact ⟨rfl, Below.refl _ _⟩
theorem below_drewN {B : Nat} (w : World) (q : Nat) : Below B w (w.drewN q) := ⟨rfl, rfl, rfl, Nat.le_refl _, fun _ _ => rfl⟩
set_option maxHeartbeats 1000000 in
theorem uid_any (p : Option Addr) (i : Nat) (l : List Int) (x : Int) (w : World) (h : VwR w w.heap.size p l) (hx : l[i]? = some x) (hl : l.length ≤ 1048576) :
    Calls Tryz.prog 63 #[.agg #[.pointer p], .int .i64 ((i : Int) + 1)] w fun e w' => e = .returned (.int .u32 x) ∧ Below w.heap.size w w' := by
  have hb0 : Below w.heap.size w (w.alloc (.cells #[.pointer p] 97)) := (Below.refl _ w).alloc (Nat.le_refl _) _
  have HA := Lib.hid (vat_any p i l x _ ((h.below hb0 (Nat.le_refl _)).mono hb0.size) hx hl)
  have HB := Lib.hid hb0
  clear h hx hb0
  go_enter Tryz.func63, Tryz.ntmps63
  go_wp2_with fail
  refine HA.out.mono ?_
  rintro e w1 ⟨rfl, q, rfl⟩
  go_wp2_with fail
  go_ret
  exact ⟨rfl, HB.out.trans (below_drewN _ _)⟩
set_option maxRecDepth 100000 in
set_option maxHeartbeats 1600000 in
theorem each1 (xs : List Nat) (φ : Nat → Int) (v : Value) (w : World) (h : Rd1 w w.heap.size v (xs.map (fun x : Nat => .int .u32 (x : Nat)))) (hl : xs.length ≤ 1048576)
    (hc : ∀ W x, x ∈ xs → Below w.heap.size w W → Calls Tryz.prog 81 #[.int .u32 (x : Nat)] W fun e w' => e = .returned (.int .i64 (φ x)) ∧ Below W.heap.size W w') :
    Calls Tryz.prog 79 #[v, .func (.func 81) #[] #[]] w fun e w' => ∃ v', e = .returned v' ∧ Buf w' w.heap.size 1 v' xs.length (xs.map fun x => .int .i64 (φ x)) ∧ Below w.heap.size w w' := by
  obtain ⟨A, cap, rfl, hcap, h2⟩ := h
  rw [List.length_map] at hcap h2 ⊢
  obtain ⟨n, hn⟩ : ∃ n, xs.length = n := ⟨_, rfl⟩
  rw [hn] at hcap h2 hl ⊢
  have HN := Lib.hid hn
  have HC := Lib.hid (And.intro h2 hc)
  clear hn h2 hc
  have hnI : (n : Int) ≤ 1048576 := by omega
  go_enter Tryz.func79, Tryz.ntmps79
  go_wp2_with fail
  go_loopw [5, 10] (fun s5 i wr => ∃ (k : Nat) (sv : Value), k ≤ n ∧ sv = s5 ∧ i = .int .i64 k ∧ Buf wr w.heap.size 1 sv k ((xs.take k).map fun x => .int .i64 (φ x)) ∧ Below w.heap.size w wr) (fun _ i _ => n - (intOf i).toNat)
  case atStart => exact ⟨0, _, Nat.zero_le _, rfl, rfl, Buf.nil _ _ _, Below.refl _ _⟩
  case round =>
    obtain ⟨k, sv, hk, rfl, rfl, hbuf, hbel⟩ := hrel
    have hkI : (k : Int) ≤ n := by omega
    by_cases hlt : k < n
    · have hltI : (k : Int) < n := by omega
      have hkl : k < xs.length := by have := HN.out; omega
      obtain ⟨x, hxe⟩ : ∃ x, xs[k] = x := ⟨_, rfl⟩
      have hx : xs[k]? = some x := by rw [List.getElem?_eq_getElem hkl, hxe]
      obtain ⟨b, o, rfl, hb, hcl⟩ := HC.out.1 (by omega)
      have e0 := hcl k (.int .u32 (x : Nat)) (by rw [List.getElem?_map, hx]; rfl)
      have c0 := (hbel.cell (p := ⟨b, o + k, none⟩) hb).trans e0
      have HF := Lib.hid (HC.out.2 wr x (by rw [← hxe]; exact List.getElem_mem _) hbel)
      have HB := Lib.hid (And.intro hbuf hbel)
      have HX := Lib.hid hxe
      clear hbuf hbel hxe hx e0 hcl
      go_wp2_with fail
      refine HF.out.mono ?_
      rintro e w3 ⟨rfl, hb3⟩
      obtain ⟨g, o2, c2, w4, hrun, hb4, hbel4⟩ := push_one Tryz.underlying36 infoI64 rfl (by decide) (HB.out.1.below hb3 (Nat.le_refl _)) (.int .i64 (φ x)) rfl (by have := HB.out.2.size; have := hb3.size; omega) (by omega)
      have HR := Lib.hid hrun
      have HE := Lib.hid (And.intro hb4 (And.intro hbel4 hb3))
      clear hrun hb4 hbel4 hb3
      go_wp2_with (at_builtin; refine wpList_append_run _ rfl (.tmp 14) (.tmp 18) _ _ rfl _ _ rfl rfl _ _ HR.out ?_)
      go_roundw
      case rel =>
        refine ⟨k + 1, _, by omega, rfl, by go_num, ?_, (HB.out.2.trans (HE.out.2.2.mono HB.out.2.size)).trans HE.out.2.1⟩
        rw [List.take_succ_eq_append_getElem hkl, List.map_append, HX.out]
        exact HE.out.1
      case measure => simp [intOf]; omega
    · obtain rfl : k = n := by omega
      rw [List.take_of_length_le (by have := HN.out; omega)] at hbuf
      have HB := Lib.hid (And.intro hbuf hbel)
      clear hbuf hbel
      go_wp2_with fail
      go_ret
      exact ⟨sv, rfl, HB.out.1, HB.out.2⟩

set_option maxRecDepth 100000 in
set_option maxHeartbeats 1600000 in
theorem each2 (p : Option Addr) (xs : List Nat) (φ : Nat → Int) (v : Value) (w : World) (h : Rd1 w w.heap.size v (xs.map (fun x : Nat => .int .i64 (x : Nat)))) (hl : xs.length ≤ 1048576)
    (hc : ∀ W x, x ∈ xs → Below w.heap.size w W → Calls Tryz.prog 63 #[.agg #[.pointer p], .int .i64 (x : Nat)] W fun e w' => e = .returned (.int .u32 (φ x)) ∧ Below W.heap.size W w') :
    Calls Tryz.prog 62 #[v, .func (.func 63) #[.agg #[.pointer p]] #[]] w fun e w' => ∃ v', e = .returned v' ∧ Buf w' w.heap.size 1 v' xs.length (xs.map fun x => .int .u32 (φ x)) ∧ Below w.heap.size w w' := by
  obtain ⟨A, cap, rfl, hcap, h2⟩ := h
  rw [List.length_map] at hcap h2 ⊢
  obtain ⟨n, hn⟩ : ∃ n, xs.length = n := ⟨_, rfl⟩
  rw [hn] at hcap h2 hl ⊢
  have HN := Lib.hid hn
  have HC := Lib.hid (And.intro h2 hc)
  clear hn h2 hc
  have hnI : (n : Int) ≤ 1048576 := by omega
  go_enter Tryz.func62, Tryz.ntmps62
  go_wp2_with fail
  go_loopw [5, 10] (fun s5 i wr => ∃ (k : Nat) (sv : Value), k ≤ n ∧ sv = s5 ∧ i = .int .i64 k ∧ Buf wr w.heap.size 1 sv k ((xs.take k).map fun x => .int .u32 (φ x)) ∧ Below w.heap.size w wr) (fun _ i _ => n - (intOf i).toNat)
  case atStart => exact ⟨0, _, Nat.zero_le _, rfl, rfl, Buf.nil _ _ _, Below.refl _ _⟩
  case round =>
    obtain ⟨k, sv, hk, rfl, rfl, hbuf, hbel⟩ := hrel
    have hkI : (k : Int) ≤ n := by omega
    by_cases hlt : k < n
    · have hltI : (k : Int) < n := by omega
      have hkl : k < xs.length := by have := HN.out; omega
      obtain ⟨x, hxe⟩ : ∃ x, xs[k] = x := ⟨_, rfl⟩
      have hx : xs[k]? = some x := by rw [List.getElem?_eq_getElem hkl, hxe]
      obtain ⟨b, o, rfl, hb, hcl⟩ := HC.out.1 (by omega)
      have e0 := hcl k (.int .i64 (x : Nat)) (by rw [List.getElem?_map, hx]; rfl)
      have c0 := (hbel.cell (p := ⟨b, o + k, none⟩) hb).trans e0
      have HF := Lib.hid (HC.out.2 wr x (by rw [← hxe]; exact List.getElem_mem _) hbel)
      have HB := Lib.hid (And.intro hbuf hbel)
      have HX := Lib.hid hxe
      clear hbuf hbel hxe hx e0 hcl
      go_wp2_with fail
      refine HF.out.mono ?_
      rintro e w3 ⟨rfl, hb3⟩
      obtain ⟨g, o2, c2, w4, hrun, hb4, hbel4⟩ := push_one Tryz.underlying52 infoU32 rfl (by decide) (HB.out.1.below hb3 (Nat.le_refl _)) (.int .u32 (φ x)) rfl (by have := HB.out.2.size; have := hb3.size; omega) (by omega)
      have HR := Lib.hid hrun
      have HE := Lib.hid (And.intro hb4 (And.intro hbel4 hb3))
      clear hrun hb4 hbel4 hb3
      go_wp2_with (at_builtin; refine wpList_append_run _ rfl (.tmp 14) (.tmp 18) _ _ rfl _ _ rfl rfl _ _ HR.out ?_)
      go_roundw
      case rel =>
        refine ⟨k + 1, _, by omega, rfl, by go_num, ?_, (HB.out.2.trans (HE.out.2.2.mono HB.out.2.size)).trans HE.out.2.1⟩
        rw [List.take_succ_eq_append_getElem hkl, List.map_append, HX.out]
        exact HE.out.1
      case measure => simp [intOf]; omega
    · obtain rfl : k = n := by omega
      rw [List.take_of_length_le (by have := HN.out; omega)] at hbuf
      have HB := Lib.hid (And.intro hbuf hbel)
      clear hbuf hbel
      go_wp2_with fail
      go_ret
      exact ⟨sv, rfl, HB.out.1, HB.out.2⟩

end Go.Proofs.YtamholmjppgfiaaGreatDoor
