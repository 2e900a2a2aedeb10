/- ViewFollows: the law's own walk. -/
import Derived.Test.YtponmnabbieafaaDoorVwG
import Derived.Test.YtponmnabbieafaaDoorRefS
set_option linter.unusedVariables false
set_option linter.unusedSimpArgs false
namespace Go.Proofs.YtponmnabbieafaaDoor
open Go Go.RowKit Go.Shelf Go.Lib Go.Sort

theorem rnewv_any (us : List Int) (v : Value) (w : World) (hU : U32 w w.heap.size v us) (hl : us.length ≤ 1000000) :
    Calls Tryd.prog 8 #[v] w fun e w' => ∃ v', e = .returned v' ∧ B32 w' w.heap.size v' (srtU us) ∧ Below w.heap.size w w' := by
  have HS := Lib.hid (ref_sorted us v w hU hl)
  clear hU
  go_enter Tryd.func8, Tryd.ntmps8
  go_wp2_with fail
  refine HS.out.mono ?_
  rintro e w1 ⟨v1, rfl, hb, hbel⟩
  have HB := Lib.hid (And.intro hb hbel)
  clear hb hbel
  go_wp2_with fail
  go_ret
  exact ⟨v1, rfl, HB.out⟩
theorem EvR.below {W W' : World} {ev : Value} {E : List Ev} {eb n : Nat} (h : EvR W ev E eb) (hb : Below n W W') (hn : E.length = 0 ∨ eb < n) : EvR W' ev E eb := by
  obtain ⟨p, eo, cap, e, h1, h2⟩ := h
  refine ⟨p, eo, cap, e, h1, fun i hi => ?_⟩
  have hlt := hn.resolve_left (by omega)
  obtain ⟨q0, q1, q2⟩ := h2 i hi
  exact ⟨(hb.cell (p := ⟨eb, _, none⟩) hlt).trans q0, (hb.cell (p := ⟨eb, _, none⟩) hlt).trans q1, (hb.cell (p := ⟨eb, _, none⟩) hlt).trans q2⟩
theorem cli_bound {N : Int} : ∀ (L : List Rp) (n c : Int), (∀ r ∈ L, ((r.n : Nat) : Int) ≤ N) → 0 ≤ n ∧ n ≤ N → cliL n L = (c, true) → 0 ≤ c ∧ c ≤ N
  | [], n, c, _, h, e => by
    have e2 : n = c := by simpa [cliL] using e
    rw [← e2]; exact h
  | r :: L, n, c, hr, h, e => by
    by_cases h1 : (folI n r.kind (r.n : Nat)).2 = true
    · have e1 : cliL n (r :: L) = cliL (folI n r.kind (r.n : Nat)).1 L := by simp [cliL, h1]
      exact cli_bound L _ c (fun r hr2 => hr r (List.mem_cons_of_mem _ hr2)) (folI_bound h ⟨by omega, hr r (List.mem_cons_self ..)⟩) (e1 ▸ e)
    · have e1 : cliL n (r :: L) = ((folI n r.kind (r.n : Nat)).1, false) := by simp [cliL, h1]
      rw [e1] at e
      exact absurd (congrArg Prod.snd e) (by simp)

set_option maxRecDepth 100000 in
set_option maxHeartbeats 6400000 in
theorem viewFollows_walk (us : List Int) (E : List Ev) (eb : Nat) (vu ev : Value) (w : World) (hU : U32 w w.heap.size vu us) (hE : EvR w ev E eb) (heb : E.length = 0 ∨ eb < w.heap.size) (hu : ∀ e ∈ E, e.uid < 4294967296) (h0 : ∀ x ∈ us, 0 ≤ x) :
    Calls Tryd.prog 3 #[vu, ev] w fun e w' => e = .returned (.bool true) ∧ Below w.heap.size w w' := by
  have HA := Lib.hid (fun W => alive_any W)
  obtain ⟨Au, cu, rfl, -, -⟩ := id hU
  obtain ⟨pe, eo, ce, rfl, -, -⟩ := id hE
  obtain ⟨n, hn⟩ : ∃ n, us.length = n := ⟨_, rfl⟩
  obtain ⟨q, hq⟩ : ∃ q, E.length = q := ⟨_, rfl⟩
  by_cases h1 : 60 < n
  · have h1I : (60 : Int) < n := by omega
    have h1d : decide ((60 : Int) < n) = true := decide_eq_true h1I
    rw [hn]
    clear hU hE heb hu h0 hn hq
    go_enter Tryd.func3, Tryd.ntmps3
    go_wp2_with fail
    refine (HA.out _).mono ?_
    rintro e w1 ⟨rfl, hb⟩
    have HB := Lib.hid hb
    clear hb
    go_wp2_with fail
    go_ret
    exact ⟨rfl, HB.out⟩
  have h1I : ¬ ((60 : Int) < n) := by omega
  have h1d : decide ((60 : Int) < n) = false := decide_eq_false h1I
  by_cases h2 : 60 < q
  · have h2I : (60 : Int) < q := by omega
    have h2d : decide ((60 : Int) < q) = true := decide_eq_true h2I
    rw [hn, hq]
    clear hU hE heb hu h0 hn hq
    go_enter Tryd.func3, Tryd.ntmps3
    go_wp2_with fail
    refine (HA.out _).mono ?_
    rintro e w1 ⟨rfl, hb⟩
    have HB := Lib.hid hb
    clear hb
    go_wp2_with fail
    go_ret
    exact ⟨rfl, HB.out⟩
  have h2I : ¬ ((60 : Int) < q) := by omega
  have h2d : decide ((60 : Int) < q) = false := decide_eq_false h2I
  have HN := Lib.hid (vnew_mut us (.slice Au us.length cu) w hU (by omega) h0)
  have HR := Lib.hid (fun W (hb : Below w.heap.size w W) => rnewv_any us (.slice Au us.length cu) W ((hU.below hb (Nat.le_refl _)).mono hb.size) (by omega))
  have hsl : (srtU us).length ≤ 60 := Nat.le_trans (srtU_len us) (by omega)
  have hasc := srtU_asc us
  obtain ⟨vl, hvl⟩ : ∃ vl, srtU us = vl := ⟨_, rfl⟩
  rw [hvl] at HN HR hsl hasc
  have hcl := cli_apply vl E
  have hsm := apply_small (N := 200) vl E hasc (by omega)
  obtain ⟨R, hR⟩ : ∃ R, (applyV (vl, false) E).2 = R := ⟨_, rfl⟩
  obtain ⟨fl, hfl⟩ : ∃ fl, (applyV (vl, false) E).1.1 = fl := ⟨_, rfl⟩
  have HAp : Hid (∀ (vb ib : Nat) (sv : Value) (W : World), Below w.heap.size w W → VwM W w.heap.size vb ib sv vl false → Calls Tryd.prog 9 #[.pointer (some ⟨vb, 0, none⟩), .slice pe E.length ce] W fun e w' => ∃ rv v', e = .returned rv ∧ RpR w' rv R ∧ VwM w' w.heap.size vb ib v' fl false ∧ Below w.heap.size W w') := Lib.hid (fun vb ib sv W hb hv => by
    refine (apply_any w.heap.size vb ib sv vl false E _ eb W hv (hE.below hb heb) (heb.imp_right fun h => ⟨by have := hb.size; omega, by have := hv.2.2.2.2; omega, by have := hv.2.1.2.2.2; omega, fun e => by have := (hv.2.1.own_lt _ e).2; omega⟩) hasc (by omega) hu).mono ?_
    rintro e w' ⟨rv, v', rfl, hbuf, hv', hf, -⟩
    rw [hR] at hbuf
    rw [hfl] at hv'
    exact ⟨rv, v', rfl, RpR.of_buf hbuf, hv', hf.1 _ (Nat.le_refl _)⟩)
  rw [hR] at hcl hsm
  rw [hfl] at hcl hsm
  obtain ⟨m, hm⟩ : ∃ m, R.length = m := ⟨_, rfl⟩
  have HL := Lib.hid (And.intro hcl (And.intro hsm (And.intro hm hsl)))
  have hmI : (m : Int) ≤ 1000 := by have := hsm.2.1; omega
  have hm1 : m ≤ 1000 := by omega
  rw [hn] at HN HR
  rw [hq] at HAp
  rw [hn, hq]
  clear hU hE heb hu h0 hn hq hvl hcl hsm hR hfl hm hasc hsl
  obtain ⟨x, hx⟩ : ∃ x, vl.length = x := ⟨_, rfl⟩
  have HX := Lib.hid hx
  clear hx
  go_enter Tryd.func3, Tryd.ntmps3
  go_wp2_with fail
  refine HN.out.mono ?_
  rintro e w1 ⟨vb, ib, sv, rfl, hv1, hb1⟩
  have H1 := Lib.hid (And.intro hv1 hb1)
  clear hv1 hb1
  go_wp2_with fail
  refine (HR.out _ H1.out.2).mono ?_
  rintro e w2 ⟨vn, rfl, hbn, hb2⟩
  have hsh := hbn.shape
  rw [HX.out] at hsh
  obtain ⟨An, cn, rfl⟩ : ∃ An cn, vn = .slice An x cn := by
    rcases hsh with ⟨rfl, e0⟩ | ⟨g, off, cap, rfl, _⟩
    · have h0 := HX.out
      rw [e0] at h0
      exact ⟨none, 0, by rw [← h0]; rfl⟩
    · exact ⟨_, _, rfl⟩
  have H2 := Lib.hid (And.intro (H1.out.1.below hb2 (Nat.le_refl _)) (H1.out.2.trans (hb2.mono H1.out.2.size)))
  clear hbn hb2 hsh
  go_wp2_with fail
  refine (HAp.out vb ib sv _ H2.out.2 H2.out.1).mono ?_
  rintro e w3 ⟨rv, v3, rfl, hrp, hv3, hb3⟩
  obtain ⟨pr, cr, rfl, hcr⟩ := hrp
  rw [HL.out.2.2.1]
  have H3 := Lib.hid (And.intro hv3 (And.intro (H2.out.2.trans hb3) hcr))
  clear hv3 hb3 hcr
  go_wp2_with fail
  go_loopw [6, 30] (fun s6 i wr => ∃ (k : Nat) (c : Int), k ≤ m ∧ s6 = .int .i64 c ∧ i = .int .i64 k ∧ cliL (x : Nat) (R.take k) = (c, true) ∧ Below w3.heap.size w3 wr) (fun _ i _ => m - (intOf i).toNat)
  case atStart => exact ⟨0, (x : Nat), Nat.zero_le _, rfl, rfl, rfl, Below.refl _ _⟩
  case round =>
    obtain ⟨k, c, hk, rfl, rfl, hc, hbel⟩ := hrel
    have hkI : (k : Int) ≤ m := by omega
    have hxl : x ≤ 60 := by have := HL.out.2.2.2; have := HX.out; omega
    have hcb := cli_bound (N := 200) (R.take k) (x : Nat) c (fun r hr => by have := HL.out.2.1.1 r (List.mem_of_mem_take hr); omega) (by omega) hc
    by_cases hlt : k < m
    · have hltI : (k : Int) < m := by omega
      have hkl : k < R.length := by have := HL.out.2.2.1; omega
      obtain ⟨b, o, rfl, hbl, hat⟩ := H3.out.2.2 k hkl
      have hat := hat.below hbel hbl
      have hrn := HL.out.2.1.1 R[k] (List.getElem_mem hkl)
      have hfull := HL.out.1
      rw [HX.out] at hfull
      obtain ⟨c2, hc2⟩ := cli_pre _ _ R hfull (k + 1)
      rw [List.take_succ_eq_append_getElem hkl, cli_app _ c _ _ hc, cli_one] at hc2
      have hc3 : cliL (x : Nat) (R.take (k + 1)) = (c2, true) := by rw [List.take_succ_eq_append_getElem hkl, cli_app _ c _ _ hc, cli_one]; exact hc2
      obtain ⟨r, hr⟩ : ∃ r, R[k] = r := ⟨_, rfl⟩
      rw [hr] at hat hrn hc2
      obtain ⟨kd, rn, it, fle⟩ := r
      have HF := Lib.hid (fun W => follow_any c kd (rn : Nat) 0 it (fle : Nat) 0 0 ⟨#[]⟩ ⟨#[]⟩ none 0 0 W (by omega) (by dsimp only at hrn; omega))
      rw [hc2] at HF
      obtain ⟨c0, c1, c2', c3', c4, c5, c6, c7, c8, c9⟩ := hat
      dsimp only at c0 c1 c2' c3' c4 c5 c6 c7 c8 c9
      have HB := Lib.hid (And.intro hbel (And.intro hc3 (show Below wr.heap.size wr (wr.alloc (.cells #[.int .i64 kd, .int .u32 (rn : Nat), .string ⟨#[]⟩, .int .i64 0, .string ⟨#[]⟩, .int .i64 it, .int .u8 (fle : Nat), .int .u32 0, .int .u32 0, .slice none 0 0] 34)) from (Below.refl _ _).alloc (Nat.le_refl _) _)))
      clear hbel hc hc2 hc3 hr hrn hfull hbl hcb
      go_wp2_with fail
      refine (HF.out _).mono ?_
      rintro e w5 ⟨rfl, hb5⟩
      have hbw := HB.out.1.trans (HB.out.2.2.mono HB.out.1.size)
      have H5 := Lib.hid (hbw.trans (hb5.mono hbw.size))
      clear hb5 hbw
      go_wp2_with fail
      go_roundw
      case rel => exact ⟨k + 1, c2, by omega, rfl, by go_num, HB.out.2.1, H5.out⟩
      case measure => simp [intOf]; omega
    · obtain rfl : k = m := by omega
      rw [List.take_of_length_le (by have := HL.out.2.2.1; omega)] at hc
      have hfull := HL.out.1
      rw [HX.out, hc] at hfull
      have hce : c = ((fl.length : Nat) : Int) := congrArg Prod.fst hfull
      subst hce
      have H5 := Lib.hid (And.intro (H3.out.1.below hbel (Nat.le_refl _)) (H3.out.2.1.trans (hbel.mono H3.out.2.1.size)))
      clear hc hbel hfull hcb
      go_wp2_with fail
      refine (HA.out _).mono ?_
      rintro e w6 ⟨rfl, hb6⟩
      have H6 := Lib.hid (And.intro (H5.out.1.below hb6 (Nat.le_refl _)) (H5.out.2.trans (hb6.mono H5.out.2.size)))
      clear hb6
      go_wp2_with fail
      refine (vlen_any _ _ _ H6.out.1.vwr).mono ?_
      rintro e w7 ⟨rfl, rfl⟩
      go_wp2_with fail
      go_ret
      exact ⟨by first | rfl | (simp; done), H6.out.2⟩
end Go.Proofs.YtponmnabbieafaaDoor
