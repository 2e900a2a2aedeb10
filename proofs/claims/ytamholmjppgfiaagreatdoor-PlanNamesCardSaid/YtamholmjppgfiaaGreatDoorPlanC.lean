/- The plans of the kinds of commands, and For. The plans by the kind of command, and For. -/
import Derived.Test.YtamholmjppgfiaaGreatDoorPlanA
import Derived.Test.YtamholmjppgfiaaGreatDoorC
import Derived.Test.YtamholmjppgfiaaGreatDoorMp
set_option linter.unusedVariables false
set_option linter.unusedSimpArgs false
namespace Go.Proofs.YtamholmjppgfiaaGreatDoor
open Go Go.RowKit Go.Shelf Go.Lib Go.Sort

/-- What a plan does: it adds T to the locks. -/
def Adds (B b : Nat) (r : Rq) (F : FuncId) (T : List Int) (W0 : World) : Prop := ∀ (W : World) (lv : Value) (L : List Int), RqB W B b r lv L → L.length ≤ 500 → Below B W0 W →
  Calls Tryz.prog F #[.pointer (some ⟨b, 0, none⟩)] W fun e w' => e = .returned (.tuple #[]) ∧ (∃ lv', RqB w' B b r lv' (L ++ T)) ∧ ∀ n, n ≤ B → Below n W w'
theorem own_adds (B b : Nat) (r : Rq) (hr : r.ok) (W0 : World) : Adds B b r 36 (ownL r.st r.id) W0 := fun W lv L h hl _ => own_any B b r hr lv L W h (by omega)
theorem all_adds (B b : Nat) (r : Rq) (hr : r.ok) (W0 : World) : Adds B b r 41 (queL r.st r.ss) W0 := fun W lv L h hl _ => all_any B b r hr lv L W h (by omega)
theorem noop_adds (B b : Nat) (r : Rq) (W0 : World) : Adds B b r 20 [] W0 := fun W lv L h hl _ => by
  go_enter Tryz.func20, Tryz.ntmps20
  go_wp2_with fail
  go_end0
  exact ⟨rfl, ⟨lv, by rw [List.append_nil]; exact h⟩, fun _ _ => Below.refl _ _⟩

set_option maxHeartbeats 1600000 in
theorem every_adds (B b : Nat) (r : Rq) (hr : r.ok) (W0 : World) : Adds B b r 37 (evL r.st r.ss) W0 := fun W lv L h hl _ => by
  have HN := Lib.hid (fun W => count_any r.st r.ss hr.1 hr.2.1 W)
  have HS := Lib.hid (fun W (h : RqB W B b r lv L) => some_any B b r lv L 0 (1 + r.st + r.ss) (by omega) (by have := hr.1; have := hr.2.1; omega) W h (by omega))
  obtain ⟨c0, c1, -, -, -, -, -⟩ := h.c.cells
  have HB := Lib.hid h
  clear h
  go_enter Tryz.func37, Tryz.ntmps37
  go_wp2_with fail
  refine (HN.out W).mono ?_
  rintro e w1 ⟨rfl, hb1⟩
  have HK := Lib.hid (And.intro (HB.out.below hb1 (Nat.le_refl _)) (fun n (hn : n ≤ B) => hb1.mono (Nat.le_of_lt (Nat.lt_of_le_of_lt (Nat.le_trans hn HB.out.2.2.2) HB.out.lt))))
  clear hb1
  go_wp2_with fail
  refine (HS.out w1 HK.out.1).mono ?_
  rintro e w2 ⟨rfl, ⟨lv2, h2, -⟩, hb2⟩
  have H2 := Lib.hid (And.intro h2 hb2)
  clear h2 hb2
  go_wp2_with fail
  go_end0
  exact ⟨rfl, ⟨lv2, H2.out.1⟩, fun n hn => (HK.out.2 n hn).trans (H2.out.2 n hn)⟩

set_option maxHeartbeats 1600000 in
theorem mine_adds (B b : Nat) (r : Rq) (hr : r.ok) (W0 : World) : Adds B b r 23 (if r.pv.isSome then ownL r.st r.id else []) W0 := fun W lv L h hl _ => by
  have HO := Lib.hid (fun W (h : RqB W B b r lv L) => own_any B b r hr lv L W h (by omega))
  obtain ⟨-, -, -, c3, -, -, -⟩ := h.c.cells
  have HB := Lib.hid h
  obtain ⟨pv, hp⟩ : ∃ pv, r.pv = pv := ⟨_, rfl⟩
  obtain ⟨T, hT⟩ : ∃ T, (if r.pv.isSome then ownL r.st r.id else []) = T := ⟨_, rfl⟩
  rw [hT]
  rw [hp] at c3 hT
  have HT := Lib.hid hT
  clear h hp hT
  cases pv with
  | none =>
    go_enter Tryz.func23, Tryz.ntmps23
    go_wp2_with fail
    go_end0
    exact ⟨rfl, ⟨lv, by rw [← HT.out, Option.isSome_none, if_neg Bool.false_ne_true, List.append_nil]; exact HB.out⟩, fun _ _ => Below.refl _ _⟩
  | some p =>
    go_enter Tryz.func23, Tryz.ntmps23
    go_wp2_with fail
    refine (HO.out W HB.out).mono ?_
    rintro e w1 ⟨rfl, ⟨lv1, h1⟩, hb1⟩
    have H1 := Lib.hid (And.intro h1 hb1)
    clear h1 hb1
    go_wp2_with fail
    go_end0
    exact ⟨rfl, ⟨lv1, by rw [← HT.out, Option.isSome_some, if_pos rfl]; exact H1.out.1⟩, H1.out.2⟩

set_option maxHeartbeats 1600000 in
theorem expunge_adds (B b : Nat) (r : Rq) (hr : r.ok) (W0 : World) : Adds B b r 24 (if r.pv.isSome then evL r.st r.ss else []) W0 := fun W lv L h hl _ => by
  have HO := Lib.hid (fun W (h : RqB W B b r lv L) => every_adds B b r hr W W lv L h hl (Below.refl _ _))
  obtain ⟨-, -, -, c3, -, -, -⟩ := h.c.cells
  have HB := Lib.hid h
  obtain ⟨pv, hp⟩ : ∃ pv, r.pv = pv := ⟨_, rfl⟩
  obtain ⟨T, hT⟩ : ∃ T, (if r.pv.isSome then evL r.st r.ss else []) = T := ⟨_, rfl⟩
  rw [hT]
  rw [hp] at c3 hT
  have HT := Lib.hid hT
  clear h hp hT
  cases pv with
  | none =>
    go_enter Tryz.func24, Tryz.ntmps24
    go_wp2_with fail
    go_end0
    exact ⟨rfl, ⟨lv, by rw [← HT.out, Option.isSome_none, if_neg Bool.false_ne_true, List.append_nil]; exact HB.out⟩, fun _ _ => Below.refl _ _⟩
  | some p =>
    go_enter Tryz.func24, Tryz.ntmps24
    go_wp2_with fail
    refine (HO.out W HB.out).mono ?_
    rintro e w1 ⟨rfl, ⟨lv1, h1⟩, hb1⟩
    have H1 := Lib.hid (And.intro h1 hb1)
    clear h1 hb1
    go_wp2_with fail
    go_end0
    exact ⟨rfl, ⟨lv1, by rw [← HT.out, Option.isSome_some, if_pos rfl]; exact H1.out.1⟩, H1.out.2⟩

set_option maxHeartbeats 1600000 in
theorem selected_adds (B b : Nat) (r : Rq) (hr : r.ok) (W0 : World) : Adds B b r 25 ([0] ++ ownL r.st r.id) W0 := fun W lv L h hl _ => by
  have HS := Lib.hid (fun W (h : RqB W B b r lv L) => some_any B b r lv L 0 1 (by omega) (by omega) W h (by omega))
  have HO := Lib.hid (fun W lv (h : RqB W B b r lv (L ++ [0])) => own_any B b r hr lv (L ++ [0]) W h (by rw [List.length_append]; simp; omega))
  have HB := Lib.hid h
  obtain ⟨T, hT⟩ : ∃ T, [0] ++ ownL r.st r.id = T := ⟨_, rfl⟩
  rw [hT]
  have HT := Lib.hid hT
  clear h hT
  go_enter Tryz.func25, Tryz.ntmps25
  go_wp2_with fail
  refine (HS.out W HB.out).mono ?_
  rintro e w1 ⟨rfl, ⟨lv1, h1, -⟩, hb1⟩
  rw [show runL 0 1 = [0] from rfl] at h1
  have H1 := Lib.hid (And.intro h1 hb1)
  clear h1 hb1
  go_wp2_with fail
  refine (HO.out w1 lv1 H1.out.1).mono ?_
  rintro e w2 ⟨rfl, ⟨lv2, h2⟩, hb2⟩
  have H2 := Lib.hid (And.intro h2 hb2)
  clear h2 hb2
  go_wp2_with fail
  go_end0
  exact ⟨rfl, ⟨lv2, by rw [← HT.out, ← List.append_assoc]; exact H2.out.1⟩, fun n hn => (H1.out.2 n hn).trans (H2.out.2 n hn)⟩

/-- Whether a mailbox is the INBOX. -/
def inboxB (mb : ByteArray) : Bool := eqS (upS mb) (upS ⟨#[73, 78, 66, 79, 88]⟩)
set_option maxHeartbeats 1600000 in
theorem append_adds (B b : Nat) (r : Rq) (hr : r.ok) (hm : r.mb.size ≤ maxLen) (W0 : World) : Adds B b r 26 (if inboxB r.mb then evL r.st r.ss else if r.pv.isSome then ownL r.st r.id else []) W0 := fun W lv L h hl _ => by
  have HC := Lib.hid (same_any r.mb ⟨#[73, 78, 66, 79, 88]⟩ W hm (by decide))
  have HE := Lib.hid (fun W (h : RqB W B b r lv L) => every_adds B b r hr W W lv L h hl (Below.refl _ _))
  have HO := Lib.hid (fun W (h : RqB W B b r lv L) => mine_adds B b r hr W W lv L h hl (Below.refl _ _))
  obtain ⟨-, -, -, -, c6, -, -⟩ := h.c.cells
  have HB := Lib.hid h
  change Hid (Calls _ _ _ _ fun e w' => e = .returned (.bool (inboxB r.mb)) ∧ _) at HC
  obtain ⟨ib, hib⟩ : ∃ ib, inboxB r.mb = ib := ⟨_, rfl⟩
  rw [hib] at HC ⊢
  obtain ⟨T, hT⟩ : ∃ T, (if ib then evL r.st r.ss else if r.pv.isSome then ownL r.st r.id else []) = T := ⟨_, rfl⟩
  rw [hT]
  have HT := Lib.hid hT
  clear h hib hm hT
  go_enter Tryz.func26, Tryz.ntmps26
  go_wp2_with fail
  refine HC.out.mono ?_
  rintro e w1 ⟨rfl, hb1⟩
  have HK := Lib.hid (And.intro (HB.out.below hb1 (Nat.le_refl _)) (fun n (hn : n ≤ B) => hb1.mono (Nat.le_of_lt (Nat.lt_of_le_of_lt (Nat.le_trans hn HB.out.2.2.2) HB.out.lt))))
  clear hb1
  cases ib
  · go_wp2_with fail
    refine (HO.out w1 HK.out.1).mono ?_
    rintro e w2 ⟨rfl, ⟨lv2, h2⟩, hb2⟩
    have H2 := Lib.hid (And.intro h2 hb2)
    clear h2 hb2
    go_wp2_with fail
    go_end0
    exact ⟨rfl, ⟨lv2, by rw [← HT.out, if_neg Bool.false_ne_true]; exact H2.out.1⟩, fun n hn => (HK.out.2 n hn).trans (H2.out.2 n hn)⟩
  · go_wp2_with fail
    refine (HE.out w1 HK.out.1).mono ?_
    rintro e w2 ⟨rfl, ⟨lv2, h2⟩, hb2⟩
    have H2 := Lib.hid (And.intro h2 hb2)
    clear h2 hb2
    go_wp2_with fail
    refine bodyPost_ret (results_none rfl _ _ _) rfl ?_
    exact ⟨rfl, ⟨lv2, by rw [← HT.out]; simp only [if_true, reduceIte]; exact H2.out.1⟩, fun n hn => (HK.out.2 n hn).trans (H2.out.2 n hn)⟩

/-- The view of a request reads as vl, its set as l, both below B. -/
def RqV (W : World) (B : Nat) (r : Rq) (vl : List Int) (l : List RB) : Prop :=
  VwR W B r.pv vl ∧ RgL W B (.slice r.A r.n r.cap) (l.map RB.rng) ∧ vl.length ≤ 60 ∧ l.length ≤ 60 ∧ (∀ x ∈ vl, 0 ≤ x ∧ x < 4294967296)
def Rq.vw (r : Rq) (vl : List Int) : Option (List Int) := if r.pv.isSome then some vl else none
theorem RqV.below {W W' : World} {B n : Nat} {r : Rq} {vl : List Int} {l : List RB} (h : RqV W B r vl l) (hb : Below n W W') (hn : B ≤ n) : RqV W' B r vl l := ⟨h.1.below hb hn, h.2.1.below hb hn, h.2.2⟩
theorem stripe_small {st : Nat} (h0 : 0 < st) {us : List Int} : ∀ k ∈ stripeL st us, 0 ≤ k ∧ k < (st : Int) := fun k hk => by
  obtain ⟨u, _, rfl⟩ := ((stripeL_spec st us).2 k).1 hk
  exact ⟨Int.emod_nonneg _ (by omega), Int.emod_lt_of_pos _ (by omega)⟩
theorem stripe_len {st : Nat} (us : List Int) : (stripeL st us).length ≤ us.length := by
  unfold stripeL cmpU
  have h := compact_len ((us.map fun u => u % (st : Int)).mergeSort fun x y => decide (x ≤ y))
  rw [List.length_mergeSort, List.length_map] at h
  exact h

theorem buf_read {W : World} {base n : Nat} {v : Value} {xs : List Value} (h : Buf W base 1 v n xs) : ∃ A cap, v = .slice A n cap ∧ (0 < n → ∃ g o, A = some ⟨g, o, none⟩ ∧ base ≤ g ∧ g < W.heap.size ∧ ∀ j u, xs[j]? = some u → W.cell? ⟨g, o + j, none⟩ = some u) := by
  rcases h.2 with ⟨rfl, h0⟩ | ⟨g, off, cap, rfl, h1, h2, h3, h4, -⟩
  · exact ⟨none, 0, by rw [h0], fun h => by omega⟩
  · exact ⟨_, cap, rfl, fun _ => ⟨g, off, rfl, h1, h2, h4⟩⟩
theorem RqB.own_lt {W : World} {B b : Nat} {r : Rq} {lv : Value} {L : List Int} (h : RqB W B b r lv L) (j : Nat) (e : lv.ownBlock = some j) : j < W.heap.size := by
  rcases h.2.1.2 with ⟨rfl, _⟩ | ⟨g, off, cap, rfl, _, h1, _⟩
  · cases e
  · have e' : g = j := by simpa [Value.ownBlock] using e
    omega
def marksB (items : Int) : Bool := bits BinOp.and IntKind.i64 items 16 != 0

set_option maxRecDepth 100000 in
set_option maxHeartbeats 3200000 in
theorem msgs_any (B b : Nat) (r : Rq) (hr : r.ok) (st : Nat) (hst : r.st = st) (h0 : 0 < st) (vl : List Int) (l : List RB) (F : FuncId) (hF : F = 36 ∨ F = 41) (T : List Int) (w : World) (hV : RqV w B r vl l) (hT : Adds B b r F T w) (lv : Value) (L : List Int) (h : RqB w B b r lv L) (hl : L.length ≤ 100) :
    Calls Tryz.prog 42 #[.pointer (some ⟨b, 0, none⟩), .func (.func F) #[.pointer (some ⟨b, 0, none⟩)] #[]] w fun e w' => e = .returned (.tuple #[]) ∧ (∃ lv', RqB w' B b r lv' (L ++ msgL st (r.vw vl) (l.map RB.rng) T)) ∧ ∀ n, n ≤ B → Below n w w' := by
  have hBw : B ≤ w.heap.size := Nat.le_of_lt (Nat.lt_of_le_of_lt h.2.2.2 h.lt)
  have HU := Lib.hid (fun W (hb : Below B w W) => uids_any r.pv vl l (.slice r.A r.n r.cap) W ((hV.1.below hb (Nat.le_refl _)).mono (Nat.le_trans hBw hb.size)) ((hV.2.1.below hb (Nat.le_refl _)).mono (Nat.le_trans hBw hb.size)) (by have := hV.2.2.1; omega) (by have := hV.2.2.2.1; omega))
  obtain ⟨ok, hok⟩ : ∃ ok, validB vl.length (l.map RB.rng) = ok := ⟨_, rfl⟩
  have hull : (uidsOf vl (l.map RB.rng)).length ≤ 60 := by
    have h1 := numsOf_len vl.length (l.map RB.rng)
    have h2 := hV.2.2.1
    unfold uidsOf
    rw [List.length_map]
    omega
  have hulb : ∀ u ∈ uidsOf vl (l.map RB.rng), 0 ≤ u ∧ u < 4294967296 := fun u hu => by
    unfold uidsOf at hu
    obtain ⟨n, hn, rfl⟩ := List.mem_map.1 hu
    obtain ⟨k1, k2⟩ := numsOf_mem hn
    rw [getElem!_pos vl (n - 1) (by omega)]
    exact hV.2.2.2.2 _ (List.getElem_mem _)
  have hvalid : r.pv = none → ok = false := fun e => by
    rcases hV.1 with ⟨_, e2⟩ | ⟨vb, ib, e2, _⟩
    · rw [← hok, e2]
      unfold validB
      simp
    · rw [e] at e2; cases e2
  have hM : msgL st (r.vw vl) (l.map RB.rng) T = if ok then (stripeL st (uidsOf vl (l.map RB.rng))).map (fun x => 1 + x) ++ T else [] := by
    unfold msgL Rq.vw
    cases hp : r.pv with
    | none =>
      rw [hvalid hp]
      rfl
    | some p =>
      simp only [Option.isSome_some, if_true, hok]
  rw [hM]
  rw [hok] at HU
  obtain ⟨us, hus⟩ : ∃ us, uidsOf vl (l.map RB.rng) = us := ⟨_, rfl⟩
  rw [hus] at HU hull hulb ⊢
  have HS := Lib.hid (fun W (v : Value) (h : U32 W W.heap.size v us) => stripes_any st h0 (by have := hr.1; omega) us v W h (by omega) hulb)
  have hsl := stripe_len (st := st) us
  have hss := stripe_small h0 (us := us)
  obtain ⟨ks, hks⟩ : ∃ ks, stripeL st us = ks := ⟨_, rfl⟩
  rw [hks] at HS hsl hss ⊢
  have HA := Lib.hid (fun W lv L' k (h : RqB W B b r lv L') (hk : k ∈ ks) (hl : L'.length ≤ 1000) => some_any B b r lv L' (1 + k) (2 + k) (by have := hss k hk; have := hr.1; omega) (by have := hss k hk; have := hr.1; omega) W h hl)
  have HI := Lib.hid (And.intro hss (And.intro hT (And.intro hl (And.intro hBw (And.intro hsl hull)))))
  have HB := Lib.hid h
  have hst1 : st ≤ 100 := by have := hr.1; omega
  have hpok : Hid (r.pv = none → ok = false) := Lib.hid hvalid
  clear hV hT hok hull hulb hvalid hM hus hsl hss hks h hl
  obtain ⟨Z, hZ⟩ : ∃ Z, (if ok then ks.map (fun x => 1 + x) ++ T else []) = Z := ⟨_, rfl⟩
  rw [hZ]
  have HZZ := Lib.hid hZ
  clear hZ
  have HZ0 := Lib.hid (show RqB w.drew B b r lv L ∧ Below B w w.drew from ⟨HB.out, Below.drew (Below.refl B w)⟩)
  go_enter Tryz.func42, Tryz.ntmps42
  go_upto_region 0 with fail
  refine region_anyC (fun W => RqC W b r) (by kernel_rfl) ?_
  refine anyC_take (i := 0) (v := ?_) rfl (by kernel_rfl) (by kernel_rfl) (by kernel_rfl) (fun _ _ _ h => h) (HZ0.out.1.c) (Or.inl ⟨by rfl, ?_⟩) ?_
  rotate_left
  · intro W hW
    go_simp
    try with_reducible rfl
  try simp only [List.getElem_toArray, List.getElem_cons_zero, List.getElem_cons_succ, Act.put, List.setIfInBounds_toArray, List.set_cons_zero, List.set_cons_succ]
  refine anyC_take (i := 1) (v := ?_) rfl (by kernel_rfl) (by kernel_rfl) (by kernel_rfl) (fun _ _ _ h => h) (HZ0.out.1.c) (Or.inl ⟨by rfl, ?_⟩) ?_
  rotate_left
  · intro W hW
    go_simp
    try with_reducible rfl
  try simp only [List.getElem_toArray, List.getElem_cons_zero, List.getElem_cons_succ, Act.put, List.setIfInBounds_toArray, List.set_cons_zero, List.set_cons_succ]
  refine anyC_take (i := 2) (v := ?_) rfl (by kernel_rfl) (by kernel_rfl) (by kernel_rfl) (fun _ _ _ h => h) (HZ0.out.1.c) (Or.inl ⟨by rfl, ?_⟩) ?_
  rotate_left
  · intro W hW
    go_simp
    try with_reducible rfl
  try simp only [List.getElem_toArray, List.getElem_cons_zero, List.getElem_cons_succ, Act.put, List.setIfInBounds_toArray, List.set_cons_zero, List.set_cons_succ]
  refine anyC_take (i := 4) (v := ?_) rfl (by kernel_rfl) (by kernel_rfl) (by kernel_rfl) (fun _ _ _ h => h) (HZ0.out.1.c) (Or.inl ⟨by rfl, ?_⟩) ?_
  rotate_left
  · intro W hW
    go_simp
    try with_reducible rfl
  try simp only [List.getElem_toArray, List.getElem_cons_zero, List.getElem_cons_succ, Act.put, List.setIfInBounds_toArray, List.set_cons_zero, List.set_cons_succ]
  refine anyC_take (i := 5) (v := ?_) rfl (by kernel_rfl) (by kernel_rfl) (by kernel_rfl) (fun _ _ _ h => h) (HZ0.out.1.c) (Or.inl ⟨by rfl, ?_⟩) ?_
  rotate_left
  · intro W hW
    go_simp
    try with_reducible rfl
  try simp only [List.getElem_toArray, List.getElem_cons_zero, List.getElem_cons_succ, Act.put, List.setIfInBounds_toArray, List.set_cons_zero, List.set_cons_succ]
  refine anyC_take (i := 6) (v := ?_) rfl (by kernel_rfl) (by kernel_rfl) (by kernel_rfl) (fun _ _ _ h => h) (HZ0.out.1.c) (Or.inl ⟨by rfl, ?_⟩) ?_
  rotate_left
  · intro W hW
    go_simp
    try with_reducible rfl
  try simp only [List.getElem_toArray, List.getElem_cons_zero, List.getElem_cons_succ, Act.put, List.setIfInBounds_toArray, List.set_cons_zero, List.set_cons_succ]
  refine anyC_take (i := 7) (v := ?_) rfl (by kernel_rfl) (by kernel_rfl) (by kernel_rfl) (fun _ _ _ h => h) (HZ0.out.1.c) (Or.inl ⟨by rfl, ?_⟩) ?_
  rotate_left
  · intro W hW
    go_simp
    try with_reducible rfl
  try simp only [List.getElem_toArray, List.getElem_cons_zero, List.getElem_cons_succ, Act.put, List.setIfInBounds_toArray, List.set_cons_zero, List.set_cons_succ]
  refine anyC_take (i := 3) (v := ?_) rfl (by kernel_rfl) (by kernel_rfl) (by kernel_rfl) (fun _ _ _ h => h) (HZ0.out.1.c) (Or.inl ⟨by rfl, ?_⟩) ?_
  rotate_left
  · intro W hW
    obtain ⟨-, -, -, c3, -, c7, -⟩ := RqC.cells hW
    go_simp
    try with_reducible rfl
  try simp only [List.getElem_toArray, List.getElem_cons_zero, List.getElem_cons_succ, Act.put, List.setIfInBounds_toArray, List.set_cons_zero, List.set_cons_succ]
  refine anyC_take (i := 8) (v := ?_) rfl (by kernel_rfl) (by kernel_rfl) (by kernel_rfl) (fun _ _ _ h => h) (HZ0.out.1.c) (Or.inl ⟨by rfl, ?_⟩) ?_
  rotate_left
  · intro W hW
    obtain ⟨-, -, -, c3, -, c7, -⟩ := RqC.cells hW
    go_simp
    try with_reducible rfl
  try simp only [List.getElem_toArray, List.getElem_cons_zero, List.getElem_cons_succ, Act.put, List.setIfInBounds_toArray, List.set_cons_zero, List.set_cons_succ]
  refine anyC_one (i := 9) (by kernel_rfl) (fun K hK => ⟨_, rfl, by kernel_rfl, ?_⟩)
  go_simp
  refine (HU.out _ HZ0.out.2).mono ?_
  rintro e w1 ⟨v1, rfl, hB1, hb1⟩
  have hk1 := HZ0.out.1.below hb1 (Nat.le_refl _)
  have HK := Lib.hid (And.intro hk1 (And.intro (HZ0.out.2.trans (hb1.mono (Nat.le_trans HI.out.2.2.2.1 HZ0.out.2.size))) (U32.of_buf hB1)))
  clear hk1 hB1 hb1
  refine hK _ _ (HK.out.1.c) ?_
  clear hK K
  try simp only [List.getElem_toArray, List.getElem_cons_zero, List.getElem_cons_succ, Act.put, List.setIfInBounds_toArray, List.set_cons_zero, List.set_cons_succ]
  refine anyC_take (i := 10) (v := ?_) rfl (by kernel_rfl) (by kernel_rfl) (by kernel_rfl) (fun _ _ _ h => h) (HK.out.1.c) (Or.inl ⟨by rfl, ?_⟩) ?_
  rotate_left
  · intro W hW
    go_simp
    try with_reducible rfl
  try simp only [List.getElem_toArray, List.getElem_cons_zero, List.getElem_cons_succ, Act.put, List.setIfInBounds_toArray, List.set_cons_zero, List.set_cons_succ]
  refine anyC_take (i := 11) (v := ?_) rfl (by kernel_rfl) (by kernel_rfl) (by kernel_rfl) (fun _ _ _ h => h) (HK.out.1.c) (Or.inl ⟨by rfl, ?_⟩) ?_
  rotate_left
  · intro W hW
    go_simp
    try with_reducible rfl
  try simp only [List.getElem_toArray, List.getElem_cons_zero, List.getElem_cons_succ, Act.put, List.setIfInBounds_toArray, List.set_cons_zero, List.set_cons_succ]
  refine anyC_take (i := 12) (v := ?_) rfl (by kernel_rfl) (by kernel_rfl) (by kernel_rfl) (fun _ _ _ h => h) (HK.out.1.c) (Or.inl ⟨by rfl, ?_⟩) ?_
  rotate_left
  · intro W hW
    go_simp
    try with_reducible rfl
  try simp only [List.getElem_toArray, List.getElem_cons_zero, List.getElem_cons_succ, Act.put, List.setIfInBounds_toArray, List.set_cons_zero, List.set_cons_succ]
  refine anyC_take (i := 13) (v := ?_) rfl (by kernel_rfl) (by kernel_rfl) (by kernel_rfl) (fun _ _ _ h => h) (HK.out.1.c) (Or.inl ⟨by rfl, ?_⟩) ?_
  rotate_left
  · intro W hW
    go_simp
    try with_reducible rfl
  try simp only [List.getElem_toArray, List.getElem_cons_zero, List.getElem_cons_succ, Act.put, List.setIfInBounds_toArray, List.set_cons_zero, List.set_cons_succ]
  refine anyC_take (i := 14) (v := ?_) rfl (by kernel_rfl) (by kernel_rfl) (by kernel_rfl) (fun _ _ _ h => h) (HK.out.1.c) (Or.inl ⟨by rfl, ?_⟩) ?_
  rotate_left
  · intro W hW
    go_simp
    try with_reducible rfl
  try simp only [List.getElem_toArray, List.getElem_cons_zero, List.getElem_cons_succ, Act.put, List.setIfInBounds_toArray, List.set_cons_zero, List.set_cons_succ]
  refine anyC_done (by kernel_rfl) ?_ _
  obtain ⟨-, -, -, c3, -, -, -⟩ := HK.out.1.c.cells
  obtain ⟨c0, -, -, -, -, -, -⟩ := HK.out.1.c.cells
  rw [hst] at c0
  cases ok with
  | false =>
    cases hp : r.pv with
    | none =>
      rw [hp] at c3
      go_wp2_with fail
      refine bodyPost_ret (results_none rfl _ _ _) rfl ?_
      exact ⟨rfl, ⟨lv, by rw [← HZZ.out, if_neg Bool.false_ne_true, List.append_nil]; exact HK.out.1⟩, fun n hn => HK.out.2.1.mono hn⟩
    | some p =>
      rw [hp] at c3
      go_wp2_with fail
      refine bodyPost_ret (results_none rfl _ _ _) rfl ?_
      exact ⟨rfl, ⟨lv, by rw [← HZZ.out, if_neg Bool.false_ne_true, List.append_nil]; exact HK.out.1⟩, fun n hn => HK.out.2.1.mono hn⟩
  | true =>
    cases hp : r.pv with
    | none => exact absurd (hpok.out hp) (by simp)
    | some p =>
      rw [hp] at c3
      have HS1 := Lib.hid (HS.out w1 v1 HK.out.2.2)
      go_wp2_with fail
      refine HS1.out.mono ?_
      rintro e w2 ⟨v2, rfl, hB2, hb2⟩
      obtain ⟨A2, cap2, rfl, hcl⟩ := buf_read hB2
      obtain ⟨m, hm⟩ : ∃ m, ks.length = m := ⟨_, rfl⟩
      rw [hm] at hcl ⊢
      have hm60 : m ≤ 60 := by have := HI.out.2.2.2.2.1; have := HI.out.2.2.2.2.2; omega
      have hmI : (m : Int) ≤ 60 := by omega
      have hk2 := HK.out.1.below hb2 (Nat.le_refl _)
      have hb02 := HK.out.2.1.trans (hb2.mono (Nat.le_trans HI.out.2.2.2.1 HK.out.2.1.size))
      have hfar : ∀ g, w1.heap.size ≤ g → g ≠ b ∧ lv.ownBlock ≠ some g := fun g hg => ⟨by have := HK.out.1.lt; omega, fun e => by have := HK.out.1.own_lt g e; omega⟩
      have HX := Lib.hid (And.intro hcl (And.intro hm (And.intro hk2 (And.intro hb02 hfar))))
      clear hB2 hb2 hcl hm hk2 hb02 hp hfar
      go_wp2_with fail
      go_loopw [38] (fun i wr => ∃ (k : Nat) (lv' : Value), k ≤ m ∧ i = .int .i64 k ∧ RqB wr B b r lv' (L ++ (ks.take k).map (fun x => 1 + x)) ∧ (Kpt w2 wr b lv lv' ∧ w2.heap.size ≤ wr.heap.size) ∧ Below B w wr) (fun i _ => m - (intOf i).toNat)
      case atStart => exact ⟨0, lv, Nat.zero_le _, rfl, by rw [List.take_zero, List.map_nil, List.append_nil]; exact HX.out.2.2.1, ⟨Kpt.refl _ _ _, Nat.le_refl _⟩, HX.out.2.2.2.1⟩
      case round =>
        obtain ⟨k, lv', hk, rfl, hrq, hkp, hbel⟩ := hrel
        have hkI : (k : Int) ≤ m := by omega
        have hl2 : (L ++ (ks.take k).map (fun x => 1 + x)).length ≤ 500 := by
          rw [List.length_append, List.length_map, List.length_take]
          have := HI.out.2.2.1
          omega
        by_cases hlt : k < m
        · have hltI : (k : Int) < m := by omega
          have hkl : k < ks.length := by have := HX.out.2.1; omega
          obtain ⟨x, hxe⟩ : ∃ x, ks[k] = x := ⟨_, rfl⟩
          have hx : ks[k]? = some x := by rw [List.getElem?_eq_getElem hkl, hxe]
          have hxm : x ∈ ks := by rw [← hxe]; exact List.getElem_mem _
          obtain ⟨hx0, hx1⟩ := HI.out.1 x hxm
          have hw1 : IntKind.i64.wrap (1 + x) = 1 + x := by simp [IntKind.wrap, IntKind.bits, IntKind.signed]; omega
          have hw2 : IntKind.i64.wrap (2 + x) = 2 + x := by simp [IntKind.wrap, IntKind.bits, IntKind.signed]; omega
          obtain ⟨g, o, rfl, hg1, hg2, hc⟩ := HX.out.1 (by omega)
          obtain ⟨f1, f2⟩ := HX.out.2.2.2.2 g hg1
          have c0 : wr.cell? ⟨g, o + k, none⟩ = some (.int .i64 x) := (World.cell?_of_block (a := ⟨g, o + k, none⟩) (hkp.1 g hg2 f1 f2).1).trans (hc k _ (by rw [List.getElem?_map, hx]; rfl))
          have HA1 := Lib.hid (HA.out wr lv' _ x hrq hxm (by omega))
          have HY := Lib.hid (And.intro hkp (And.intro hbel hxe))
          clear hkp hbel hxe hx hc hrq hl2
          go_wp2_with fail
          refine HA1.out.mono ?_
          rintro e w4 ⟨rfl, ⟨lv4, h4, hkp4⟩, hb4⟩
          have H4 := Lib.hid (And.intro h4 (And.intro (And.intro (HY.out.1.1.trans hkp4 HY.out.1.2) (Nat.le_trans HY.out.1.2 (hb4 B (Nat.le_refl _)).size)) (HY.out.2.1.trans (hb4 B (Nat.le_refl _)))))
          clear h4 hkp4 hb4
          go_wp2_with fail
          go_roundw
          case rel =>
            refine ⟨k + 1, lv4, by omega, by go_num, ?_, H4.out.2.1, H4.out.2.2⟩
            have h4 := H4.out.1
            rw [show 2 + x = 1 + x + 1 by omega, runL_one, List.append_assoc] at h4
            rw [List.take_succ_eq_append_getElem hkl, List.map_append, HY.out.2.2]
            exact h4
          case measure => simp [intOf]; omega
        · obtain rfl : k = m := by omega
          rw [List.take_of_length_le (by have := HX.out.2.1; omega)] at hrq hl2
          have HT := Lib.hid (HI.out.2.1 wr lv' _ hrq hl2 hbel)
          have HY := Lib.hid hbel
          clear hkp hbel hrq hl2
          rcases hF with rfl | rfl <;>
          · go_wp2_with fail
            refine HT.out.mono ?_
            rintro e w4 ⟨rfl, ⟨lv4, h4⟩, hb4⟩
            have H4 := Lib.hid (And.intro h4 hb4)
            clear h4 hb4
            go_wp2_with fail
            go_end0
            refine ⟨rfl, ⟨lv4, ?_⟩, fun n hn => (HY.out.mono hn).trans (H4.out.2 n hn)⟩
            have h4 := H4.out.1
            rw [List.append_assoc] at h4
            rw [← HZZ.out]
            simp only [if_true, reduceIte]
            exact h4

theorem marks_any (items : Int) (w : World) : Calls Tryz.prog 40 #[.int .i64 items] w fun e w' => e = .returned (.bool (marksB items)) ∧ w' = w := by
  go_enter Tryz.func40, Tryz.ntmps40
  go_wp2_with fail
  go_ret
  exact ⟨rfl, rfl⟩

set_option maxHeartbeats 1600000 in
theorem fetch_any (B b : Nat) (r : Rq) (hr : r.ok) (st : Nat) (hst : r.st = st) (h0 : 0 < st) (vl : List Int) (l : List RB) (w : World) (hV : RqV w B r vl l) (lv : Value) (L : List Int) (h : RqB w B b r lv L) (hl : L.length ≤ 100) :
    Calls Tryz.prog 27 #[.pointer (some ⟨b, 0, none⟩)] w fun e w' => e = .returned (.tuple #[]) ∧ (∃ lv', RqB w' B b r lv' (L ++ msgL st (r.vw vl) (l.map RB.rng) (if marksB r.items then queL r.st r.ss else ownL r.st r.id))) ∧ ∀ n, n ≤ B → Below n w w' := by
  have HO := Lib.hid (msgs_any B b r hr st hst h0 vl l 36 (.inl rfl) _ w hV (own_adds B b r hr w) lv L h hl)
  have HA := Lib.hid (msgs_any B b r hr st hst h0 vl l 41 (.inr rfl) _ w hV (all_adds B b r hr w) lv L h hl)
  have HM := Lib.hid (marks_any r.items w)
  obtain ⟨-, -, -, -, -, -, c8⟩ := h.c.cells
  obtain ⟨mk, hmk⟩ : ∃ mk, marksB r.items = mk := ⟨_, rfl⟩
  rw [hmk] at HM ⊢
  obtain ⟨Z, hZ⟩ : ∃ Z, (if mk then queL r.st r.ss else ownL r.st r.id) = Z := ⟨_, rfl⟩
  rw [hZ]
  have HZ := Lib.hid hZ
  clear hV h hmk hZ
  go_enter Tryz.func27, Tryz.ntmps27
  go_wp2_with fail
  refine HM.out.mono ?_
  rintro e w1 ⟨rfl, rfl⟩
  cases mk
  · go_wp2_with fail
    refine HO.out.mono ?_
    rintro e w2 ⟨rfl, h2, hb2⟩
    have H2 := Lib.hid (And.intro h2 hb2)
    clear h2 hb2
    go_wp2_with fail
    go_end0
    exact ⟨rfl, by rw [← HZ.out, if_neg Bool.false_ne_true]; exact H2.out.1, H2.out.2⟩
  · go_wp2_with fail
    refine HA.out.mono ?_
    rintro e w2 ⟨rfl, h2, hb2⟩
    have H2 := Lib.hid (And.intro h2 hb2)
    clear h2 hb2
    go_wp2_with fail
    go_end0
    exact ⟨rfl, by rw [← HZ.out]; simp only [if_true, reduceIte]; exact H2.out.1, H2.out.2⟩

set_option maxHeartbeats 1600000 in
theorem store_any (B b : Nat) (r : Rq) (hr : r.ok) (st : Nat) (hst : r.st = st) (h0 : 0 < st) (vl : List Int) (l : List RB) (w : World) (hV : RqV w B r vl l) (lv : Value) (L : List Int) (h : RqB w B b r lv L) (hl : L.length ≤ 100) :
    Calls Tryz.prog 28 #[.pointer (some ⟨b, 0, none⟩)] w fun e w' => e = .returned (.tuple #[]) ∧ (∃ lv', RqB w' B b r lv' (L ++ msgL st (r.vw vl) (l.map RB.rng) (queL r.st r.ss))) ∧ ∀ n, n ≤ B → Below n w w' := by
  have HA := Lib.hid (msgs_any B b r hr st hst h0 vl l 41 (.inr rfl) _ w hV (all_adds B b r hr w) lv L h hl)
  clear hV h
  go_enter Tryz.func28, Tryz.ntmps28
  go_wp2_with fail
  refine HA.out.mono ?_
  rintro e w2 ⟨rfl, h2, hb2⟩
  have H2 := Lib.hid (And.intro h2 hb2)
  clear h2 hb2
  go_wp2_with fail
  go_end0
  exact ⟨rfl, H2.out.1, H2.out.2⟩
end Go.Proofs.YtamholmjppgfiaaGreatDoor

namespace Go.Proofs.YtamholmjppgfiaaGreatDoor
open Go Go.RowKit Go.Shelf Go.Lib Go.Sort

def fnP (f : FuncId) : Value := .func (.func f) #[] #[]
theorem zeroFnP (w : World) : (zeroValue 45).run Tryz.prog w = .ok .nilFunc w := by kernel_rfl
def planM : List (Int × Value) := [(1, fnP 23), (2, fnP 23), (3, fnP 24), (4, fnP 24), (5, fnP 25), (6, fnP 26), (7, fnP 27), (8, fnP 28)]

theorem plan_map (w : World) : ∃ w1 w2 w3 w4 w5 w6 w7 w8, Hid (KMap w8 w.heap.size (Value.int .i64) planM ∧ Below w.heap.size w w8) ∧ Hid ((Instr.mapUpdate 47 (.map (some w.heap.size)) (.int .i64 1) (fnP 23)).run Tryz.prog (w.alloc (.map #[] 0)) = .ok () w1) ∧ Hid ((Instr.mapUpdate 47 (.map (some w.heap.size)) (.int .i64 2) (fnP 23)).run Tryz.prog w1 = .ok () w2) ∧ Hid ((Instr.mapUpdate 47 (.map (some w.heap.size)) (.int .i64 3) (fnP 24)).run Tryz.prog w2 = .ok () w3) ∧ Hid ((Instr.mapUpdate 47 (.map (some w.heap.size)) (.int .i64 4) (fnP 24)).run Tryz.prog w3 = .ok () w4) ∧ Hid ((Instr.mapUpdate 47 (.map (some w.heap.size)) (.int .i64 5) (fnP 25)).run Tryz.prog w4 = .ok () w5) ∧ Hid ((Instr.mapUpdate 47 (.map (some w.heap.size)) (.int .i64 6) (fnP 26)).run Tryz.prog w5 = .ok () w6) ∧ Hid ((Instr.mapUpdate 47 (.map (some w.heap.size)) (.int .i64 7) (fnP 27)).run Tryz.prog w6 = .ok () w7) ∧ Hid ((Instr.mapUpdate 47 (.map (some w.heap.size)) (.int .i64 8) (fnP 28)).run Tryz.prog w7 = .ok () w8) := by
  have K := Kp.int (P := Tryz.prog) Tryz.underlying3
  have hm0 : KMap (w.alloc (.map #[] 0)) w.heap.size (Value.int .i64) ([] : List (Int × Value)) := KMap.made w
  have hb0 : Below w.heap.size w (w.alloc (.map #[] 0)) := (Below.refl _ _).alloc (Nat.le_refl _) _
  obtain ⟨w1, hr1, hm1, hg1⟩ := hm0.put K Tryz.underlying47 (1 : Int) (fnP 23) (by decide)
  have hb1 := hb0.grown hg1 (by rw [World.size_alloc]; omega) (fun j hj => by injection hj with hj; omega)
  obtain ⟨w2, hr2, hm2, hg2⟩ := hm1.put K Tryz.underlying47 (2 : Int) (fnP 23) (by exact rfl)
  have hb2 := hb1.grown hg2 (hb1.size) (fun j hj => by injection hj with hj; omega)
  obtain ⟨w3, hr3, hm3, hg3⟩ := hm2.put K Tryz.underlying47 (3 : Int) (fnP 24) (by exact rfl)
  have hb3 := hb2.grown hg3 (hb2.size) (fun j hj => by injection hj with hj; omega)
  obtain ⟨w4, hr4, hm4, hg4⟩ := hm3.put K Tryz.underlying47 (4 : Int) (fnP 24) (by exact rfl)
  have hb4 := hb3.grown hg4 (hb3.size) (fun j hj => by injection hj with hj; omega)
  obtain ⟨w5, hr5, hm5, hg5⟩ := hm4.put K Tryz.underlying47 (5 : Int) (fnP 25) (by exact rfl)
  have hb5 := hb4.grown hg5 (hb4.size) (fun j hj => by injection hj with hj; omega)
  obtain ⟨w6, hr6, hm6, hg6⟩ := hm5.put K Tryz.underlying47 (6 : Int) (fnP 26) (by exact rfl)
  have hb6 := hb5.grown hg6 (hb5.size) (fun j hj => by injection hj with hj; omega)
  obtain ⟨w7, hr7, hm7, hg7⟩ := hm6.put K Tryz.underlying47 (7 : Int) (fnP 27) (by exact rfl)
  have hb7 := hb6.grown hg7 (hb6.size) (fun j hj => by injection hj with hj; omega)
  obtain ⟨w8, hr8, hm8, hg8⟩ := hm7.put K Tryz.underlying47 (8 : Int) (fnP 28) (by exact rfl)
  have hb8 := hb7.grown hg8 (hb7.size) (fun j hj => by injection hj with hj; omega)
  exact ⟨w1, w2, w3, w4, w5, w6, w7, w8, Lib.hid ⟨hm8, hb8⟩, Lib.hid hr1, Lib.hid hr2, Lib.hid hr3, Lib.hid hr4, Lib.hid hr5, Lib.hid hr6, Lib.hid hr7, Lib.hid hr8⟩

set_option maxRecDepth 100000 in
set_option maxHeartbeats 1600000 in
theorem plans_any (w : World) : Calls Tryz.prog 19 #[] w fun e w' => ∃ m, e = .returned (.map (some m)) ∧ KMap w' m (Value.int .i64) planM ∧ Below w.heap.size w w' := by
  have hmm := @run_makeMap Tryz.prog
  obtain ⟨w1, w2, w3, w4, w5, w6, w7, w8, HZ, HR1, HR2, HR3, HR4, HR5, HR6, HR7, HR8⟩ := plan_map w
  go_enter Tryz.func19, Tryz.ntmps19
  go_wp2_with (refine wpList_insert_run rfl _ _ _ _ rfl (.map (some w.heap.size)) (.int .i64 1) (fnP 23) rfl rfl rfl _ HR1.out ?_; refine wpList_insert_run rfl _ _ _ _ rfl (.map (some w.heap.size)) (.int .i64 2) (fnP 23) rfl rfl rfl _ HR2.out ?_; refine wpList_insert_run rfl _ _ _ _ rfl (.map (some w.heap.size)) (.int .i64 3) (fnP 24) rfl rfl rfl _ HR3.out ?_; refine wpList_insert_run rfl _ _ _ _ rfl (.map (some w.heap.size)) (.int .i64 4) (fnP 24) rfl rfl rfl _ HR4.out ?_; refine wpList_insert_run rfl _ _ _ _ rfl (.map (some w.heap.size)) (.int .i64 5) (fnP 25) rfl rfl rfl _ HR5.out ?_; refine wpList_insert_run rfl _ _ _ _ rfl (.map (some w.heap.size)) (.int .i64 6) (fnP 26) rfl rfl rfl _ HR6.out ?_; refine wpList_insert_run rfl _ _ _ _ rfl (.map (some w.heap.size)) (.int .i64 7) (fnP 27) rfl rfl rfl _ HR7.out ?_; refine wpList_insert_run rfl _ _ _ _ rfl (.map (some w.heap.size)) (.int .i64 8) (fnP 28) rfl rfl rfl _ HR8.out ?_)
  go_ret
  exact ⟨w.heap.size, rfl, HZ.out⟩

theorem operLookup {P : Program} {o : Oper} {a : Act} {w : World} {K : Act → World → Prop} {Q : Exit → Act → World → Prop} (m x : Operand) (t : TypeId) (c : Bool) (ho : o.op = Op.lookup t m x c) (mv key v : Value) (hm : a.eval m = mv) (hx : a.eval x = key) (w' : World)
    (hrun : (Instr.lookup t mv key c).run P w = .ok v w') (h : K (a.put o.dst v) w') : Oper.wp P o a w K Q := by
  unfold Oper.wp
  simp [execOp, ho, hm, hx, hrun, Result.andThen]
  exact h

theorem queue_yes (st ss id : Int) (h : 0 ≤ st ∧ st ≤ 100) (hs : ss ≤ 100) (hid : 0 ≤ id ∧ id < ss) (w : World) : Calls Tryz.prog 10 #[.agg #[.int .i64 st, .int .i64 ss], .int .i64 id] w fun e w' => e = .returned (.tuple #[.int .i64 (1 + st + id), .bool true]) ∧ Below w.heap.size w w' := by
  have HQ := Lib.hid (fun W => queues_any st ss h W)
  obtain ⟨h1, h2⟩ := h
  obtain ⟨h3, h4⟩ := hid
  have hw : IntKind.i64.wrap (1 + st + id) = 1 + st + id := by simp [IntKind.wrap, IntKind.bits, IntKind.signed]; omega
  have hn1 : ¬ (id < 0) := by omega
  have hn2 : ¬ (ss ≤ id) := by omega
  have hd1 : decide (id < 0) = false := decide_eq_false hn1
  have hd2 : decide (ss ≤ id) = false := decide_eq_false hn2
  have hb0 : Below w.heap.size w (w.alloc (.cells #[.int .i64 st, .int .i64 ss] 24)) := (Below.refl _ w).alloc (Nat.le_refl _) _
  have HB := Lib.hid hb0
  clear hb0
  go_enter Tryz.func10, Tryz.ntmps10
  go_wp2_with fail
  refine (HQ.out _).mono ?_
  rintro e w1 ⟨rfl, hb1⟩
  have HB1 := Lib.hid (HB.out.trans (hb1.mono HB.out.size))
  clear hb1
  go_wp2_with fail
  go_ret2
  exact ⟨rfl, HB1.out⟩
theorem queue_no (st ss id : Int) (hid : ¬ (0 ≤ id ∧ id < ss)) (w : World) : Calls Tryz.prog 10 #[.agg #[.int .i64 st, .int .i64 ss], .int .i64 id] w fun e w' => e = .returned (.tuple #[.int .i64 0, .bool false]) ∧ Below w.heap.size w w' := by
  have hb0 : Below w.heap.size w (w.alloc (.cells #[.int .i64 st, .int .i64 ss] 24)) := (Below.refl _ w).alloc (Nat.le_refl _) _
  have HB := Lib.hid hb0
  clear hb0
  by_cases h1 : id < 0
  · clear hid
    go_enter Tryz.func10, Tryz.ntmps10
    go_wp2_with fail
    go_ret2
    exact ⟨rfl, HB.out⟩
  · have h2 : ss ≤ id := by omega
    have hd1 : decide (id < 0) = false := decide_eq_false h1
    have hd2 : decide (ss ≤ id) = true := decide_eq_true h2
    clear hid
    go_enter Tryz.func10, Tryz.ntmps10
    go_wp2_with fail
    go_ret2
    exact ⟨rfl, HB.out⟩

set_option maxHeartbeats 1600000 in
theorem for_no (r : Rq) (hid : ¬ (0 ≤ r.id ∧ r.id < r.ss)) (w : World) :
    Calls Tryz.prog 16 #[.agg #[.int .i64 r.st, .int .i64 r.ss], .int .i64 r.id, .pointer r.pv, .agg r.cmd] w fun e w' => e = .returned (.slice none 0 0) ∧ Below w.heap.size w w' := by
  have HQ := Lib.hid (fun W => queue_no r.st r.ss r.id hid W)
  have hb0 : Below w.heap.size w ((w.alloc (.cells #[.int .i64 r.st, .int .i64 r.ss] 24)).alloc (.cells r.cmd 44)) := ((Below.refl _ w).alloc (Nat.le_refl _) _).alloc (by rw [World.size_alloc]; omega) _
  have HB := Lib.hid hb0
  clear hb0 hid
  unfold Rq.cmd at *
  go_enter Tryz.func16, Tryz.ntmps16
  go_wp2_with fail
  refine (HQ.out _).mono ?_
  rintro e w1 ⟨rfl, hb1⟩
  have HB1 := Lib.hid (HB.out.trans (hb1.mono HB.out.size))
  clear hb1
  go_wp2_with fail
  go_ret
  exact ⟨rfl, HB1.out⟩

set_option maxRecDepth 100000 in
set_option maxHeartbeats 3200000 in
theorem for_core (r : Rq) (hr : r.ok) (hst : 0 < r.st) (hid : r.id < r.ss) (o : Option Value) (F : FuncId) (hF : ∀ args w, (callFunc F args).run Tryz.prog w = .ok (.enter F args) w) (ho : o = some (fnP F) ∨ (o = none ∧ F = 20)) (hlk : lookK planM r.kind = o) (T : List Int) (w : World)
    (hT : ∀ b lv W, RqB W w.heap.size b r lv [] → Below w.heap.size w W → Calls Tryz.prog F #[.pointer (some ⟨b, 0, none⟩)] W fun e w' => e = .returned (.tuple #[]) ∧ (∃ lv', RqB w' w.heap.size b r lv' ([] ++ T)) ∧ ∀ n, n ≤ w.heap.size → Below n W w') :
    Calls Tryz.prog 16 #[.agg #[.int .i64 r.st, .int .i64 r.ss], .int .i64 r.id, .pointer r.pv, .agg r.cmd] w fun e w' => ∃ v, e = .returned v ∧ Buf w' w.heap.size 1 v T.length (T.map (Value.int .i64)) ∧ Below w.heap.size w w' := by
  have HQ := Lib.hid (fun W => queue_yes r.st r.ss r.id hr.1 hr.2.1.2 ⟨hr.2.2.1, hid⟩ W)
  have hb0 : Below w.heap.size w ((w.alloc (.cells #[.int .i64 r.st, .int .i64 r.ss] 24)).alloc (.cells r.cmd 44)) := ((Below.refl _ w).alloc (Nat.le_refl _) _).alloc (by rw [World.size_alloc]; omega) _
  have hk0 := (Blk.made w 24 #[.int .i64 r.st, .int .i64 r.ss]).past (.cells r.cmd 44)
  have hk1 := Blk.made (w.alloc (.cells #[.int .i64 r.st, .int .i64 r.ss] 24)) 44 r.cmd
  rw [World.size_alloc] at hk1
  have hs0 : ((w.alloc (.cells #[.int .i64 r.st, .int .i64 r.ss] 24)).alloc (.cells r.cmd 44)).heap.size = w.heap.size + 2 := by rw [World.size_alloc, World.size_alloc]
  have HB := Lib.hid (And.intro hb0 (And.intro hk0 (And.intro hk1 hs0)))
  have HT := Lib.hid hT
  have HLK := Lib.hid hlk
  have hstne : ¬ (r.st = 0) := by omega
  have hstb : (r.st == 0) = false := by simpa using hstne
  clear hb0 hk0 hk1 hs0 hT hlk hr hst hid
  unfold Rq.cmd at *
  go_enter Tryz.func16, Tryz.ntmps16
  go_wp2_with fail
  refine (HQ.out _).mono ?_
  rintro e w1 ⟨rfl, hb1⟩
  have hc0 := HB.out.2.1.below hb1 (by rw [HB.out.2.2.2]; omega)
  have hc1 := HB.out.2.2.1.below hb1 (by rw [HB.out.2.2.2]; omega)
  have hz1 := HB.out.1.trans (hb1.mono HB.out.1.size)
  have x0 : w1.cell? ⟨w.heap.size, 0, none⟩ = some (.int .i64 r.st) := hc0.cell 0
  have x1 : w1.cell? ⟨w.heap.size, 1, none⟩ = some (.int .i64 r.ss) := hc0.cell 1
  have H1 := Lib.hid (And.intro hc0 (And.intro hc1 hz1))
  clear hb1 hc0 hc1 hz1
  go_upto_region 4 with fail
  refine region_anyC (fun W => Blk W (w.heap.size + 1) 44 #[.string r.tg, .int .i64 r.kind, .string r.mb, .slice r.A r.n r.cap, .int .i64 r.items, .int .i64 r.mode, .bool r.sil, .int .u8 r.fl, .slice r.D r.nd r.cd]) (by kernel_rfl) ?_
  refine anyC_take (i := 1) (v := ?_) rfl (by kernel_rfl) (by kernel_rfl) (by kernel_rfl) (fun _ _ _ h => h) (H1.out.2.1) (Or.inl ⟨by rfl, ?_⟩) ?_
  rotate_left
  · intro W hW
    go_simp
    try with_reducible rfl
  try simp only [List.getElem_toArray, List.getElem_cons_zero, List.getElem_cons_succ, Act.put, List.setIfInBounds_toArray, List.set_cons_zero, List.set_cons_succ]
  refine anyC_take (i := 2) (v := ?_) rfl (by kernel_rfl) (by kernel_rfl) (by kernel_rfl) (fun _ _ _ h => h) (H1.out.2.1) (Or.inl ⟨by rfl, ?_⟩) ?_
  rotate_left
  · intro W hW
    have x : W.cell? ⟨w.heap.size + 1, 1, none⟩ = some (.int .i64 r.kind) := hW.cell 1
    go_simp
    try with_reducible rfl
  try simp only [List.getElem_toArray, List.getElem_cons_zero, List.getElem_cons_succ, Act.put, List.setIfInBounds_toArray, List.set_cons_zero, List.set_cons_succ]
  refine anyC_one (i := 0) (by kernel_rfl) (fun K hK => ⟨_, rfl, by kernel_rfl, ?_⟩)
  go_simp
  refine (plans_any _).mono ?_
  rintro e w2 ⟨m, rfl, hm2, hb2⟩
  have H1d := Lib.hid (show Blk w1.drew _ _ _ ∧ Blk w1.drew _ _ _ ∧ Below w.heap.size w w1.drew from And.intro H1.out.1.drew (And.intro H1.out.2.1.drew (Below.drew H1.out.2.2)))
  have H2 := Lib.hid (And.intro hm2 (And.intro (H1d.out.1.below hb2 H1d.out.1.lt) (And.intro (H1d.out.2.1.below hb2 H1d.out.2.1.lt) (H1d.out.2.2.trans (hb2.mono H1d.out.2.2.size)))))
  clear hm2 hb2
  refine hK _ _ (H2.out.2.2.1) ?_
  clear hK K
  try simp only [List.getElem_toArray, List.getElem_cons_zero, List.getElem_cons_succ, Act.put, List.setIfInBounds_toArray, List.set_cons_zero, List.set_cons_succ]
  obtain hlook := H2.out.1.look (Kp.int (P := Tryz.prog) Tryz.underlying3) Tryz.underlying47 (zeroFnP w2) r.kind
  rw [HLK.out] at hlook
  refine anyC_one (i := 3) (by kernel_rfl) (fun K hK => ⟨_, rfl, by kernel_rfl, ?_⟩)
  refine operLookup (.tmp 28) (.tmp 30) _ _ rfl _ _ _ rfl rfl _ hlook ?_
  refine hK _ _ (H2.out.2.2.1) ?_
  clear hK K
  try simp only [List.getElem_toArray, List.getElem_cons_zero, List.getElem_cons_succ, Act.put, List.setIfInBounds_toArray, List.set_cons_zero, List.set_cons_succ]
  refine anyC_take (i := 4) (v := ?_) rfl (by kernel_rfl) (by kernel_rfl) (by kernel_rfl) (fun _ _ _ h => h) (H2.out.2.2.1) (Or.inl ⟨by rfl, ?_⟩) ?_
  rotate_left
  · intro W hW
    go_simp
    try with_reducible rfl
  try simp only [List.getElem_toArray, List.getElem_cons_zero, List.getElem_cons_succ, Act.put, List.setIfInBounds_toArray, List.set_cons_zero, List.set_cons_succ]
  refine anyC_take (i := 5) (v := ?_) rfl (by kernel_rfl) (by kernel_rfl) (by kernel_rfl) (fun _ _ _ h => h) (H2.out.2.2.1) (Or.inl ⟨by rfl, ?_⟩) ?_
  rotate_left
  · intro W hW
    go_simp
    try with_reducible rfl
  try simp only [List.getElem_toArray, List.getElem_cons_zero, List.getElem_cons_succ, Act.put, List.setIfInBounds_toArray, List.set_cons_zero, List.set_cons_succ]
  refine anyC_take (i := 6) (v := ?_) rfl (by kernel_rfl) (by kernel_rfl) (by kernel_rfl) (fun _ _ _ h => h) (H2.out.2.2.1) (Or.inl ⟨by rfl, ?_⟩) ?_
  rotate_left
  · intro W hW
    go_simp
    try with_reducible rfl
  try simp only [List.getElem_toArray, List.getElem_cons_zero, List.getElem_cons_succ, Act.put, List.setIfInBounds_toArray, List.set_cons_zero, List.set_cons_succ]
  refine anyC_take (i := 7) (v := ?_) rfl (by kernel_rfl) (by kernel_rfl) (by kernel_rfl) (fun _ _ _ h => h) (H2.out.2.2.1) (Or.inl ⟨by rfl, ?_⟩) ?_
  rotate_left
  · intro W hW
    go_simp
    try with_reducible rfl
  try simp only [List.getElem_toArray, List.getElem_cons_zero, List.getElem_cons_succ, Act.put, List.setIfInBounds_toArray, List.set_cons_zero, List.set_cons_succ]
  refine anyC_take (i := 8) (v := ?_) rfl (by kernel_rfl) (by kernel_rfl) (by kernel_rfl) (fun _ _ _ h => h) (H2.out.2.2.1) (Or.inl ⟨by rfl, ?_⟩) ?_
  rotate_left
  · intro W hW
    go_simp
    try with_reducible rfl
  try simp only [List.getElem_toArray, List.getElem_cons_zero, List.getElem_cons_succ, Act.put, List.setIfInBounds_toArray, List.set_cons_zero, List.set_cons_succ]
  refine anyC_done (by kernel_rfl) ?_ _
  have hW3 : RqB (w2.alloc (.cells (r.row (.slice none 0 0)) 51)) w.heap.size w2.heap.size r (.slice none 0 0) [] := ⟨Blk.made _ _ _, Buf.nil _ _ _, by simp [Value.ownBlock], H2.out.2.2.2.size⟩
  have HW3 := Lib.hid (And.intro hW3 (H2.out.2.2.2.alloc H2.out.2.2.2.size (.cells (r.row (.slice none 0 0)) 51)))
  have y0 : w2.cell? ⟨w.heap.size, 0, none⟩ = some (.int .i64 r.st) := H2.out.2.1.cell 0
  have y1 : w2.cell? ⟨w.heap.size, 1, none⟩ = some (.int .i64 r.ss) := H2.out.2.1.cell 1
  have z0 : w2.cell? ⟨w.heap.size + 1, 0, none⟩ = some (.string r.tg) := H2.out.2.2.1.cell 0
  have z1 : w2.cell? ⟨w.heap.size + 1, 1, none⟩ = some (.int .i64 r.kind) := H2.out.2.2.1.cell 1
  have z2 : w2.cell? ⟨w.heap.size + 1, 2, none⟩ = some (.string r.mb) := H2.out.2.2.1.cell 2
  have z3 : w2.cell? ⟨w.heap.size + 1, 3, none⟩ = some (.slice r.A r.n r.cap) := H2.out.2.2.1.cell 3
  have z4 : w2.cell? ⟨w.heap.size + 1, 4, none⟩ = some (.int .i64 r.items) := H2.out.2.2.1.cell 4
  have z5 : w2.cell? ⟨w.heap.size + 1, 5, none⟩ = some (.int .i64 r.mode) := H2.out.2.2.1.cell 5
  have z6 : w2.cell? ⟨w.heap.size + 1, 6, none⟩ = some (.bool r.sil) := H2.out.2.2.1.cell 6
  have z7 : w2.cell? ⟨w.heap.size + 1, 7, none⟩ = some (.int .u8 r.fl) := H2.out.2.2.1.cell 7
  have z8 : w2.cell? ⟨w.heap.size + 1, 8, none⟩ = some (.slice r.D r.nd r.cd) := H2.out.2.2.1.cell 8
  clear hW3 x0 x1 hlook
  rcases ho with rfl | ⟨rfl, rfl⟩
  · simp only [Option.getD_some, Option.isSome_some, fnP]
    go_wp2_with fail
    refine (HT.out _ _ _ HW3.out.1 HW3.out.2).mono ?_
    rintro e w3 ⟨rfl, ⟨lv, h3⟩, hb3⟩
    obtain ⟨A3, c3, rfl, -⟩ := buf_read h3.2.1
    have x13 : w3.cell? ⟨w2.heap.size, 13, none⟩ = some (.slice A3 ([] ++ T).length c3) := h3.1.cell 13
    have H3 := Lib.hid (And.intro h3.2.1 (hb3 _ (Nat.le_refl _)))
    clear h3 hb3
    go_wp2_with fail
    go_ret
    exact ⟨_, rfl, H3.out.1, HW3.out.2.trans H3.out.2⟩
  · simp only [Option.getD_none, Option.isSome_none]
    go_wp2_with fail
    refine (HT.out _ _ _ HW3.out.1 HW3.out.2).mono ?_
    rintro e w3 ⟨rfl, ⟨lv, h3⟩, hb3⟩
    obtain ⟨A3, c3, rfl, -⟩ := buf_read h3.2.1
    have x13 : w3.cell? ⟨w2.heap.size, 13, none⟩ = some (.slice A3 ([] ++ T).length c3) := h3.1.cell 13
    have H3 := Lib.hid (And.intro h3.2.1 (hb3 _ (Nat.le_refl _)))
    clear h3 hb3
    go_wp2_with fail
    go_ret
    exact ⟨_, rfl, H3.out.1, HW3.out.2.trans H3.out.2⟩

set_option maxRecDepth 100000 in
/-- The kinds of plans, and what each adds. -/
theorem for_kind (r : Rq) (st ss : Nat) (hst : r.st = st) (hss : r.ss = ss) (hr : r.ok) (h0 : 0 < st) (vl : List Int) (l : List RB) (hm : r.mb.size ≤ maxLen) :
    ∃ (F : FuncId) (o : Option Value), (∀ args w, (callFunc F args).run Tryz.prog w = .ok (.enter F args) w) ∧ (o = some (fnP F) ∨ (o = none ∧ F = 20)) ∧ lookK planM r.kind = o ∧
      ∀ (w : World) (b : Nat) (lv : Value) (W : World), RqV w w.heap.size r vl l → RqB W w.heap.size b r lv [] → Below w.heap.size w W →
        Calls Tryz.prog F #[.pointer (some ⟨b, 0, none⟩)] W fun e w' => e = .returned (.tuple #[]) ∧ (∃ lv', RqB w' w.heap.size b r lv' ([] ++ planL st ss r.id (r.vw vl) r.kind (inboxB r.mb) (l.map RB.rng) (marksB r.items))) ∧ ∀ n, n ≤ w.heap.size → Below n W w' := by
  have hsome : (r.vw vl).isSome = r.pv.isSome := by
    unfold Rq.vw
    cases r.pv <;> rfl
  have hstE := hst
  by_cases h1 : r.kind = 1 ∨ r.kind = 2
  · refine ⟨23, _, fun _ _ => rfl, .inl rfl, by rcases h1 with h | h <;> rw [h] <;> rfl, fun w b lv W hV hB hb => ?_⟩
    have := mine_adds w.heap.size b r hr w W lv [] hB (Nat.zero_le _) hb
    unfold planL
    rw [if_pos h1, hsome]
    rw [hst] at this
    exact this
  by_cases h3 : r.kind = 3 ∨ r.kind = 4
  · refine ⟨24, _, fun _ _ => rfl, .inl rfl, by rcases h3 with h | h <;> rw [h] <;> rfl, fun w b lv W hV hB hb => ?_⟩
    have := expunge_adds w.heap.size b r hr w W lv [] hB (Nat.zero_le _) hb
    unfold planL
    rw [if_neg h1, if_pos h3, hsome]
    rw [hst, hss] at this
    exact this
  by_cases h5 : r.kind = 5
  · refine ⟨25, _, fun _ _ => rfl, .inl rfl, by rw [h5]; rfl, fun w b lv W hV hB hb => ?_⟩
    have := selected_adds w.heap.size b r hr w W lv [] hB (Nat.zero_le _) hb
    unfold planL
    rw [if_neg h1, if_neg h3, if_pos h5]
    rw [hst] at this
    exact this
  by_cases h6 : r.kind = 6
  · refine ⟨26, _, fun _ _ => rfl, .inl rfl, by rw [h6]; rfl, fun w b lv W hV hB hb => ?_⟩
    have := append_adds w.heap.size b r hr hm w W lv [] hB (Nat.zero_le _) hb
    unfold planL
    rw [if_neg h1, if_neg h3, if_neg h5, if_pos h6, hsome]
    rw [hst, hss] at this
    exact this
  by_cases h7 : r.kind = 7
  · refine ⟨27, _, fun _ _ => rfl, .inl rfl, by rw [h7]; rfl, fun w b lv W hV hB hb => ?_⟩
    have := fetch_any w.heap.size b r hr st hst h0 vl l W (hV.below hb (Nat.le_refl _)) lv [] hB (Nat.zero_le _)
    unfold planL
    rw [if_neg h1, if_neg h3, if_neg h5, if_neg h6, if_pos h7]
    rw [hst, hss] at this
    exact this
  by_cases h8 : r.kind = 8
  · refine ⟨28, _, fun _ _ => rfl, .inl rfl, by rw [h8]; rfl, fun w b lv W hV hB hb => ?_⟩
    have := store_any w.heap.size b r hr st hst h0 vl l W (hV.below hb (Nat.le_refl _)) lv [] hB (Nat.zero_le _)
    unfold planL
    rw [if_neg h1, if_neg h3, if_neg h5, if_neg h6, if_neg h7, if_pos h8]
    rw [hst, hss] at this
    exact this
  · refine ⟨20, none, fun _ _ => rfl, .inr ⟨rfl, rfl⟩, ?_, fun w b lv W hV hB hb => ?_⟩
    · unfold lookK planM
      rw [Option.map_eq_none_iff, List.find?_eq_none]
      intro p hp
      simp only [List.mem_cons, List.not_mem_nil, or_false] at hp
      rcases hp with rfl | rfl | rfl | rfl | rfl | rfl | rfl | rfl <;> simp only [decide_eq_true_eq] <;> omega
    · have := noop_adds w.heap.size b r w W lv [] hB (Nat.zero_le _) hb
      unfold planL
      rw [if_neg h1, if_neg h3, if_neg h5, if_neg h6, if_neg h7, if_neg h8]
      exact this
theorem for_any (r : Rq) (st ss : Nat) (hst : r.st = st) (hss : r.ss = ss) (h1 : st ≤ 100) (h2 : ss ≤ 100) (h0 : 0 < st) (vl : List Int) (l : List RB) (hm : r.mb.size ≤ maxLen) (w : World) (hV : RqV w w.heap.size r vl l) :
    Calls Tryz.prog 16 #[.agg #[.int .i64 r.st, .int .i64 r.ss], .int .i64 r.id, .pointer r.pv, .agg r.cmd] w fun e w' =>
      ∃ v, e = .returned v ∧ Buf w' w.heap.size 1 v (forL st ss r.id (r.vw vl) r.kind (inboxB r.mb) (l.map RB.rng) (marksB r.items)).length ((forL st ss r.id (r.vw vl) r.kind (inboxB r.mb) (l.map RB.rng) (marksB r.items)).map (Value.int .i64)) ∧ Below w.heap.size w w' := by
  unfold forL
  by_cases hid : 0 ≤ r.id ∧ r.id < ss
  · rw [if_pos hid]
    have hr : r.ok := ⟨by omega, by omega, by omega⟩
    obtain ⟨F, o, hF, ho, hlk, hT⟩ := for_kind r st ss hst hss hr h0 vl l hm
    exact for_core r hr (by omega) (by omega) o F hF ho hlk _ w (fun b lv W hB hb => hT w b lv W hV hB hb)
  · rw [if_neg hid]
    refine (for_no r (by rw [hss]; exact hid) w).mono ?_
    rintro e w' ⟨rfl, hb⟩
    exact ⟨_, rfl, Buf.nil _ _ _, hb⟩
end Go.Proofs.YtamholmjppgfiaaGreatDoor
