/- resolve.Split: the map of the stripes, its keys. -/
import Derived.Test.YtamholmjppgfiaaGreatDoorResW
import Derived.Test.YtamholmjppgfiaaGreatDoorMp
import Derived.Maps.OwnOps
import Derived.Maps.OwnSet
import Derived.Maps.Views
set_option linter.unusedVariables false
set_option linter.unusedSimpArgs false
namespace Go.Proofs.YtamholmjppgfiaaGreatDoor
open Go Go.RowKit Go.Shelf Go.Lib Go.Sort Go.Maps

/-- A value, kept as a datum. -/
def RV (v : Value) : Option (DataW Value × List MemPlace) := some (.held v, [])
/-- Split between two rounds: k identifiers have been taken. -/
def SJ (w0 : World) (mb n : Nat) (us : List Int) (k : Nat) (W : World) : Prop :=
  ∃ (D : DataW Value) (f : Int → Value) (g : Int → List Value), W.ownsMap Tryz.prog 3 RV mb k D ∧ Below w0.heap.size w0 W ∧ w0.heap.size ≤ mb ∧ (∀ x, D.atKey (.int .i64 x) (.held (.slice none 0 0)) = .held (f x)) ∧
    (∀ x, Buf W w0.heap.size 1 (f x) (g x).length (g x)) ∧ (∀ x, (g x).length ≤ k) ∧ (∀ x y, x ≠ y → ∀ b, (f x).ownBlock = some b → (f y).ownBlock ≠ some b) ∧ (∀ x b, (f x).ownBlock = some b → b ≠ mb) ∧ (∀ x, Maps.has D (.int .i64 x) = true ↔ ∃ u ∈ us.take k, u % (n : Int) = x)

theorem wf_i64 {x : Int} (h0 : 0 ≤ x) (h1 : x ≤ 1048576) : (Lit.int .i64 x).wf = true := by
  simp [Lit.wf, IntKind.min, IntKind.max, IntKind.bits, IntKind.signed]; omega
theorem SJ.step {w0 W : World} {mb n k : Nat} {us : List Int} {u : Int} (h : SJ w0 mb n us k W) (hu : us[k]? = some u) (hn0 : 0 < n) (hn : n ≤ 1048576) (hk : k ≤ 1048576) :
    ∃ v ps w' w2 g o c, (Instr.lookup 102 (.map (some mb)) (.int .i64 (u % n)) false).run Tryz.prog W = .ok v W ∧ ps = ([] : List MemPlace) ∧
      (∃ m, (Builtin.append_ #[52, 52] 52 #[v, .slice (some ⟨W.heap.size, 0, none⟩) 1 1]).run Tryz.prog (W.alloc (.cells #[.int .u32 u] 34)) = .ok (.slice (some ⟨g, o, none⟩) (m + 1) c) w' ∧
        (Instr.mapUpdate 102 (.map (some mb)) (.int .i64 (u % n)) (.slice (some ⟨g, o, none⟩) (m + 1) c)).run Tryz.prog w' = .ok () w2) ∧ SJ w0 mb n us (k + 1) w2 := by
  obtain ⟨D, f, g, hown, hbel, hmb, hat, hbuf, hlen, hdis, hne, hhas⟩ := h
  have hx0 : 0 ≤ u % (n : Int) := Int.emod_nonneg _ (by omega)
  have hx1 : u % (n : Int) < n := Int.emod_lt_of_pos _ (by omega)
  obtain ⟨x, hx⟩ : ∃ x, u % (n : Int) = x := ⟨_, rfl⟩
  rw [hx] at hx0 hx1
  have K : Keyed Tryz.prog 3 := int_keyed Tryz.underlying3
  have hkey : keyOf Tryz.prog 3 (.int .i64 x) = some (.int .i64 x) := keyOf_int_mk Tryz.underlying3 (wf_i64 hx0 (by omega))
  obtain ⟨v, ps, hrun, hv⟩ := hown.lookup K Tryz.underlying102 (Tryz.zeroValue52 W) (zd := .held (.slice none 0 0)) (zp := []) rfl hkey
  rw [hat x] at hv
  simp only [RV, Option.some.injEq, Prod.mk.injEq, DataW.held.injEq] at hv
  obtain ⟨rfl, rfl⟩ := hv
  obtain ⟨i0, hi, hz0, hz1, hz2⟩ := info_parts infoU32
  have hsz := hbel.size
  have hmlt := hown.lt
  obtain ⟨v', w', hap, hb', hgr, hrw⟩ := run_append_buf (P := Tryz.prog) (W.alloc (.cells #[.int .u32 u] 34)) 52 52 34 i0 _ 1 4 Tryz.underlying52 hi hz0 hz1 hz2 rfl (by decide) w0.heap.size (f x) (g x).length _ ((hbuf x).past _) (some ⟨W.heap.size, 0, none⟩) 1 1 [.int .u32 u]
    ⟨rfl, fun y hy => by simp at hy; subst hy; rfl, fun _ => ⟨_, rfl, fun j y hj => by
      rw [Go.WideShapes.add_plain]
      simp only [World.cell?, heap_alloc_new, Nat.zero_add]
      simpa using hj⟩⟩ (by have := hlen x; unfold maxLen; omega) (by have := hlen x; omega) (by rw [World.size_alloc]; omega)
  obtain ⟨gb, o, c, rfl⟩ := buf_pos hb'
  have hbd : ∀ y b, (f y).ownBlock = some b → w0.heap.size ≤ b ∧ b < W.heap.size := fun y b e => by
    rcases (hbuf y).2 with ⟨e2, _⟩ | ⟨g2, off, cap, e2, h1, h2, _⟩
    · rw [e2] at e; cases e
    · rw [e2] at e
      have e' : g2 = b := by simpa [Value.ownBlock] using e
      omega
  have hown1 : (W.alloc (.cells #[.int .u32 u] 34)).ownsMap Tryz.prog 3 RV mb k D := hown.alloc _
  have hown' : w'.ownsMap Tryz.prog 3 RV mb k D := hown1.kept hgr (fun e => hne x mb e.symm rfl)
  obtain ⟨w2, hup, hown2, hg2⟩ := hown'.update K Tryz.underlying102 (by unfold maxLen; omega) hkey (val := .slice (some ⟨gb, o, none⟩) ((g x).length + 1) c) (d := .held (.slice (some ⟨gb, o, none⟩) ((g x).length + 1) c)) (ps := []) rfl
  have hgb : ∀ y, y ≠ x → (f y).ownBlock ≠ some gb := fun y hy e => by
    rcases hrw with e2 | ⟨g2, e2, hg⟩
    · have e3 : (f x).ownBlock = some gb := by rw [← e2]; rfl
      exact hdis x y (Ne.symm hy) gb e3 e
    · have e3 : gb = g2 := by simpa [Value.ownBlock] using e2
      have := (hbd y gb e).2
      rw [World.size_alloc] at hg
      omega
  have hgbm : gb ≠ mb := fun e => by
    rcases hrw with e2 | ⟨g2, e2, hg⟩
    · exact hne x gb (by rw [← e2]; rfl) e
    · have e3 : gb = g2 := by simpa [Value.ownBlock] using e2
      rw [World.size_alloc] at hg
      omega
  have hbel' : Below w0.heap.size w0 w' := ((hbel.alloc hsz _).grown hgr (by rw [World.size_alloc]; omega) (fun j e => (hbd x j e).1))
  refine ⟨f x, [], w', w2, gb, o, c, by rw [hx]; exact hrun, rfl, ⟨(g x).length, hap, by rw [hx]; exact hup⟩, D.put (.int .i64 x) (.held (.slice (some ⟨gb, o, none⟩) ((g x).length + 1) c)), fun y => if y = x then .slice (some ⟨gb, o, none⟩) ((g x).length + 1) c else f y,
    fun y => if y = x then g x ++ [.int .u32 u] else g y, hown2, hbel'.grown hg2 hbel'.size (fun j e => by injection e with e; omega), hmb, fun y => ?_, fun y => ?_, fun y => ?_, fun y z hyz b e => ?_, fun y b e => ?_, fun y => ?_⟩
  · dsimp only
    by_cases hy : y = x
    · subst hy
      rw [if_pos rfl, atKey_put_same hown'.isMap (show WideAt.IsKeyLit (.int .i64 y) from trivial)]
    · rw [if_neg hy, atKey_put_other (fun e => hy (by injection e)), hat]
  · dsimp only
    by_cases hy : y = x
    · subst hy
      rw [if_pos rfl, if_pos rfl, List.length_append]
      exact hb'.grown hg2 (fun j e e2 => by injection e2 with e2; have e3 : gb = j := by simpa [Value.ownBlock] using e
                                            omega)
    · rw [if_neg hy, if_neg hy]
      have h1 := ((hbuf y).past (.cells #[.int .u32 u] 34)).grown hgr (fun j e e2 => hdis y x hy j e e2.symm)
      exact h1.grown hg2 (fun j e e2 => by injection e2 with e2; subst e2; exact hne y _ e rfl)
  · dsimp only
    have := hlen x
    have := hlen y
    by_cases hy : y = x
    · rw [if_pos hy, List.length_append, List.length_singleton]; omega
    · rw [if_neg hy]; omega
  · dsimp only at e ⊢
    by_cases hy : y = x
    · subst hy
      rw [if_pos rfl] at e
      have e3 : gb = b := by simpa [Value.ownBlock] using e
      subst e3
      rw [if_neg (Ne.symm hyz)]
      exact hgb z (Ne.symm hyz)
    · rw [if_neg hy] at e
      by_cases hz : z = x
      · subst hz
        rw [if_pos rfl]
        intro e4
        have e3 : gb = b := by simpa [Value.ownBlock] using e4
        subst e3
        exact hgb y hy e
      · rw [if_neg hz]
        exact hdis y z hyz b e
  · dsimp only at e ⊢
    by_cases hy : y = x
    · rw [if_pos hy] at e
      have e3 : gb = b := by simpa [Value.ownBlock] using e
      omega
    · rw [if_neg hy] at e
      exact hne y b e
  · have hkl : k < us.length := (List.getElem?_eq_some_iff.1 hu).1
    have htk : us.take (k + 1) = us.take k ++ [u] := by
      rw [List.take_succ_eq_append_getElem hkl, (List.getElem?_eq_some_iff.1 hu).2]
    rw [htk]
    by_cases hy : y = x
    · subst hy
      rw [has_put_same hown'.isMap (show WideAt.IsKeyLit (.int .i64 y) from trivial)]
      simp only [true_iff]
      exact ⟨u, by simp, hx⟩
    · rw [has_put_other (fun e => hy (by injection e)), hhas]
      constructor
      · rintro ⟨z, hz, e⟩
        exact ⟨z, by simp [hz], e⟩
      · rintro ⟨z, hz, e⟩
        rcases List.mem_append.1 hz with hz | hz
        · exact ⟨z, hz, e⟩
        · simp at hz
          subst hz
          exact absurd (e.symm.trans hx) hy

set_option maxRecDepth 100000 in
set_option maxHeartbeats 1600000 in
theorem split_any (n : Nat) (hn0 : 0 < n) (hn : n ≤ 1048576) (us : List Int) (v : Value) (w : World) (hU : U32 w w.heap.size v us) (hl : us.length ≤ 1048576) (hu : ∀ u ∈ us, 0 ≤ u ∧ u < 4294967296) :
    Calls Tryz.prog 66 #[.int .i64 n, v] w fun e w' => ∃ mb, e = .returned (.map (some mb)) ∧ SJ w mb n us us.length w' := by
  obtain ⟨A, cap, rfl, hcap, hc⟩ := hU
  obtain ⟨m, hm⟩ : ∃ m, us.length = m := ⟨_, rfl⟩
  rw [hm] at hcap hc hl ⊢
  have HM := Lib.hid hm
  have HC := Lib.hid (And.intro hc hu)
  clear hm hc hu
  have hnI : (n : Int) ≤ 1048576 := by omega
  have hn1 : ¬ ((n : Int) < 1) := by omega
  have hn1d : decide ((n : Int) < 1) = false := decide_eq_false hn1
  have hnz : ((n : Int) == 0) = false := by simp; omega
  have hmI : (m : Int) ≤ 1048576 := by omega
  have hwn : IntKind.u64.wrap (n : Int) = n := by simp [IntKind.wrap, IntKind.bits, IntKind.signed]; omega
  have hmm := @run_makeMap Tryz.prog
  go_enter Tryz.func66, Tryz.ntmps66
  go_wp2_with fail
  go_loopw [14] (fun i wr => ∃ k : Nat, k ≤ m ∧ i = .int .i64 k ∧ SJ w w.heap.size n us k wr) (fun i _ => m - (intOf i).toNat)
  case atStart =>
    refine ⟨0, Nat.zero_le _, rfl, .map [], fun _ => .slice none 0 0, fun _ => [], World.ownsMap_made _ _ _ _, (Below.refl _ w).alloc (Nat.le_refl _) _, Nat.le_refl _, fun x => rfl, fun x => Buf.nil _ _ _, fun x => Nat.le_refl _, fun x y _ b e => (by cases e), fun x b e => (by cases e), fun x => ?_⟩
    simp [Maps.has]
  case round =>
    obtain ⟨k, hk, rfl, hj⟩ := hrel
    have hkI : (k : Int) ≤ m := by omega
    by_cases hlt : k < m
    · have hltI : (k : Int) < m := by omega
      have hkl : k < us.length := by have := HM.out; omega
      obtain ⟨u, hue⟩ : ∃ u, us[k] = u := ⟨_, rfl⟩
      have hus : us[k]? = some u := by rw [List.getElem?_eq_getElem hkl, hue]
      obtain ⟨b, o, rfl, hb, hcl⟩ := HC.out.1 (by omega)
      have hbel : Below w.heap.size w wr := by obtain ⟨_, _, _, _, h, _⟩ := hj; exact h
      have c0 := (hbel.cell (p := ⟨b, o + k, none⟩) hb).trans (hcl k u hus)
      obtain ⟨hu0, hu1⟩ := HC.out.2 u (List.mem_of_getElem? hus)
      obtain ⟨v, ps, w', w2, g, off, c, hlook, -, ⟨mm, hap, hup⟩, hj2⟩ := hj.step hus hn0 hn (by omega)
      have hwu : IntKind.u64.wrap u = u := by simp [IntKind.wrap, IntKind.bits, IntKind.signed]; omega
      have hmod0 : 0 ≤ u % (n : Int) := Int.emod_nonneg _ (by omega)
      have hmod1 : u % (n : Int) < n := Int.emod_lt_of_pos _ (by omega)
      have htm : u.tmod n = u % n := Int.tmod_eq_emod_of_nonneg hu0
      have hwm : IntKind.u64.wrap (u % (n : Int)) = u % n := by simp [IntKind.wrap, IntKind.bits, IntKind.signed]; omega
      have hwi : IntKind.i64.wrap (u % (n : Int)) = u % n := by simp [IntKind.wrap, IntKind.bits, IntKind.signed]; omega
      have HL := Lib.hid (And.intro hlook (And.intro hap hup))
      have HJ := Lib.hid hj2
      clear hlook hap hup hj2 hj hus hue hcl hbel
      go_wp2_with (first
        | (at_lookup; refine wpList_lookup_run rfl _ _ _ _ rfl _ _ _ rfl rfl _ HL.out.1 ?_)
        | (at_mapUpdate; refine wpList_update_run rfl _ _ _ _ rfl _ _ _ rfl rfl rfl _ HL.out.2.2 ?_)
        | (at_builtin; refine wpList_append_run _ rfl (.tmp 28) (.tmp 30) _ _ rfl _ _ rfl rfl _ _ HL.out.2.1 ?_))
      go_roundw
      case rel => exact ⟨k + 1, by omega, by go_num, HJ.out⟩
      case measure => simp [intOf]; omega
    · obtain rfl : k = m := by omega
      have HJ := Lib.hid hj
      clear hj
      go_wp2_with fail
      go_ret
      exact ⟨_, rfl, HJ.out⟩
end Go.Proofs.YtamholmjppgfiaaGreatDoor
