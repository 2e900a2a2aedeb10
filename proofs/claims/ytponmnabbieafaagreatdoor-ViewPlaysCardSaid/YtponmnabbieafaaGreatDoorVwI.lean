/- Views that change, and the handlers of events. -/
import Derived.Test.YtponmnabbieafaaGreatDoorVwH
set_option linter.unusedVariables false
set_option linter.unusedSimpArgs false
namespace Go.Proofs.YtponmnabbieafaaGreatDoor
open Go Go.RowKit Go.Shelf Go.Lib Go.Sort

/-- The view at vb has the index at ib with the slice v, all from B on; it reads as l; g: it has grown. -/
def VwM (W : World) (B vb ib : Nat) (v : Value) (l : List Int) (g : Bool) : Prop := Blk W vb 53 #[.pointer (some ⟨ib, 0, none⟩), .bool g] ∧ IdxM W B ib v l ∧ vb ≠ ib ∧ v.ownBlock ≠ some vb ∧ B ≤ vb
/-- What else lies still. -/
def Kp2 (w w' : World) (vb ib : Nat) (v v' : Value) : Prop := ∀ k, k < w.heap.size → k ≠ vb → k ≠ ib → v.ownBlock ≠ some k → w'.heap[k]? = w.heap[k]? ∧ v'.ownBlock ≠ some k
def FrV (w w' : World) (B vb ib : Nat) (v v' : Value) : Prop := (∀ n, n ≤ B → Below n w w') ∧ Kp2 w w' vb ib v v' ∧ w.heap.size ≤ w'.heap.size
theorem FrV.refl (w : World) (B vb ib : Nat) (v : Value) : FrV w w B vb ib v v := ⟨fun _ _ => Below.refl _ _, fun _ _ _ _ h => ⟨rfl, h⟩, Nat.le_refl _⟩
theorem FrV.trans {w w1 w2 : World} {B vb ib : Nat} {v v1 v2 : Value} (h : FrV w w1 B vb ib v v1) (k : FrV w1 w2 B vb ib v1 v2) : FrV w w2 B vb ib v v2 :=
  ⟨fun n hn => (h.1 n hn).trans (k.1 n hn), fun g hg h1 h2 h3 => by
    obtain ⟨e1, o1⟩ := h.2.1 g hg h1 h2 h3
    obtain ⟨e2, o2⟩ := k.2.1 g (Nat.lt_of_lt_of_le hg h.2.2) h1 h2 o1
    exact ⟨e2.trans e1, o2⟩, Nat.le_trans h.2.2 k.2.2⟩
theorem FrV.of_below {w w' : World} (h : Below w.heap.size w w') {B : Nat} (hB : B ≤ w.heap.size) (vb ib : Nat) (v : Value) : FrV w w' B vb ib v v :=
  ⟨fun _ hn => h.mono (Nat.le_trans hn hB), fun k hk _ _ ho => ⟨h.block k hk, ho⟩, h.size⟩
theorem FrV.of_idx {w w' : World} {B ib : Nat} {v v' : Value} (h1 : ∀ n, n ≤ B → Below n w w') (h2 : Kp1 w w' ib v v') (h3 : w.heap.size ≤ w'.heap.size) (vb : Nat) : FrV w w' B vb ib v v' := ⟨h1, fun k hk _ hi ho => h2 k hk hi ho, h3⟩
theorem IdxM.own_lt {W : World} {B b : Nat} {v : Value} {l : List Int} (h : IdxM W B b v l) (j : Nat) (e : v.ownBlock = some j) : j < W.heap.size ∧ B ≤ j := by
  rcases h.2.1.2 with ⟨rfl, _⟩ | ⟨g, off, cap, rfl, h1, h2, _⟩
  · cases e
  · have e' : g = j := by simpa [Value.ownBlock] using e
    omega
theorem VwM.base {W : World} {B vb ib : Nat} {v : Value} {l : List Int} {g : Bool} (h : VwM W B vb ib v l g) : B ≤ W.heap.size := h.2.1.base
theorem VwM.below {W W' : World} {B vb ib n : Nat} {v : Value} {l : List Int} {g : Bool} (h : VwM W B vb ib v l g) (hb : Below n W W') (hn : W.heap.size ≤ n) : VwM W' B vb ib v l g := ⟨h.1.below hb (Nat.lt_of_lt_of_le h.1.lt hn), h.2.1.below hb hn, h.2.2⟩
theorem VwM.idx {w w' : World} {B vb ib : Nat} {v v' : Value} {l l' : List Int} {g : Bool} (h : VwM w B vb ib v l g) (hi : IdxM w' B ib v' l') (hk : Kp1 w w' ib v v') : VwM w' B vb ib v' l' g := by
  obtain ⟨e, o⟩ := hk vb h.1.lt h.2.2.1 h.2.2.2.1
  exact ⟨e.trans h.1, hi, h.2.2.1, o, h.2.2.2.2⟩
/-- A change of one block that is none of the view's. -/
theorem IdxM.only {W W' : World} {R B ib : Nat} {v : Value} {l : List Int} (h : IdxM W B ib v l) (hk : ∀ k, k ≠ R → W'.heap[k]? = W.heap[k]?) (hs : W.heap.size ≤ W'.heap.size) (h2 : R ≠ ib) (h3 : v.ownBlock ≠ some R) : IdxM W' B ib v l :=
  ⟨(hk ib (fun e => h2 e.symm)).trans h.1, h.2.1.kept hs (fun k _ ho => hk k (fun e => h3 (by rw [ho, e]))), h.2.2⟩
theorem VwM.only {W W' : World} {R B vb ib : Nat} {v : Value} {l : List Int} {g : Bool} (h : VwM W B vb ib v l g) (hk : ∀ k, k ≠ R → W'.heap[k]? = W.heap[k]?) (hs : W.heap.size ≤ W'.heap.size) (h1 : R ≠ vb) (h2 : R ≠ ib) (h3 : v.ownBlock ≠ some R) : VwM W' B vb ib v l g :=
  ⟨(hk vb (fun e => h1 e.symm)).trans h.1, h.2.1.only hk hs h2 h3, h.2.2⟩
theorem FrV.only {w W W' : World} {R B vb ib : Nat} {v v' : Value} (h : FrV w W B vb ib v v') (hk : ∀ k, k ≠ R → W'.heap[k]? = W.heap[k]?) (hb : ∀ n, n ≤ R → Below n W W') (hR : w.heap.size ≤ R) (hB : B ≤ w.heap.size) : FrV w W' B vb ib v v' :=
  ⟨fun n hn => (h.1 n hn).trans (hb n (by omega)), fun k hk1 h1 h2 h3 => by
    obtain ⟨e, o⟩ := h.2.1 k hk1 h1 h2 h3
    exact ⟨(hk k (by omega)).trans e, o⟩, Nat.le_trans h.2.2 (hb 0 (Nat.zero_le _)).size⟩
/-- 'v.grown = g2'. -/
theorem VwM.grow {W : World} {B vb ib : Nat} {v : Value} {l : List Int} {g : Bool} (h : VwM W B vb ib v l g) (g2 : Bool) : VwM (W.setCell ⟨vb, 1, none⟩ (.bool g2)) B vb ib v l g2 := by
  have hk : ∀ k, k ≠ vb → (W.setCell ⟨vb, 1, none⟩ (.bool g2)).heap[k]? = W.heap[k]? := fun k hk => Below.heap_setCell W ⟨vb, 1, none⟩ _ k hk
  exact ⟨h.1.put 1 (.bool g2), h.2.1.only hk (by simp [World.setCell]) h.2.2.1 h.2.2.2.1, h.2.2⟩
theorem FrV.grow {w W : World} {B vb ib : Nat} {v v' : Value} (h : FrV w W B vb ib v v') (hB : B ≤ vb) (u : Value) : FrV w (W.setCell ⟨vb, 1, none⟩ u) B vb ib v v' :=
  ⟨fun n hn => (h.1 n hn).setCell (p := ⟨vb, 1, none⟩) (by show n ≤ vb; omega) _, fun k hk1 h1 h2 h3 => by
    obtain ⟨e, o⟩ := h.2.1 k hk1 h1 h2 h3
    exact ⟨(Below.heap_setCell W ⟨vb, 1, none⟩ _ k h1).trans e, o⟩, Nat.le_trans h.2.2 (by simp [World.setCell])⟩
/-- Ten stores into a response. -/
theorem put_ten {W : World} {R : Nat} {t : TypeId} {b0 b1 b2 b3 b4 b5 b6 b7 b8 b9 : Value} (h : Blk W R t #[b0, b1, b2, b3, b4, b5, b6, b7, b8, b9]) (a0 a1 a2 a3 a4 a5 a6 a7 a8 a9 : Value) :
    Blk ((((((((((W.setCell ⟨R, 0, none⟩ a0).setCell ⟨R, 1, none⟩ a1).setCell ⟨R, 2, none⟩ a2).setCell ⟨R, 3, none⟩ a3).setCell ⟨R, 4, none⟩ a4).setCell ⟨R, 5, none⟩ a5).setCell ⟨R, 6, none⟩ a6).setCell ⟨R, 7, none⟩ a7).setCell ⟨R, 8, none⟩ a8).setCell ⟨R, 9, none⟩ a9) R t #[a0, a1, a2, a3, a4, a5, a6, a7, a8, a9] ∧ ((((((((((W.setCell ⟨R, 0, none⟩ a0).setCell ⟨R, 1, none⟩ a1).setCell ⟨R, 2, none⟩ a2).setCell ⟨R, 3, none⟩ a3).setCell ⟨R, 4, none⟩ a4).setCell ⟨R, 5, none⟩ a5).setCell ⟨R, 6, none⟩ a6).setCell ⟨R, 7, none⟩ a7).setCell ⟨R, 8, none⟩ a8).setCell ⟨R, 9, none⟩ a9).heap.size = W.heap.size ∧ (∀ k, k ≠ R → ((((((((((W.setCell ⟨R, 0, none⟩ a0).setCell ⟨R, 1, none⟩ a1).setCell ⟨R, 2, none⟩ a2).setCell ⟨R, 3, none⟩ a3).setCell ⟨R, 4, none⟩ a4).setCell ⟨R, 5, none⟩ a5).setCell ⟨R, 6, none⟩ a6).setCell ⟨R, 7, none⟩ a7).setCell ⟨R, 8, none⟩ a8).setCell ⟨R, 9, none⟩ a9).heap[k]? = W.heap[k]?) ∧ ∀ n, n ≤ R → Below n W ((((((((((W.setCell ⟨R, 0, none⟩ a0).setCell ⟨R, 1, none⟩ a1).setCell ⟨R, 2, none⟩ a2).setCell ⟨R, 3, none⟩ a3).setCell ⟨R, 4, none⟩ a4).setCell ⟨R, 5, none⟩ a5).setCell ⟨R, 6, none⟩ a6).setCell ⟨R, 7, none⟩ a7).setCell ⟨R, 8, none⟩ a8).setCell ⟨R, 9, none⟩ a9) := by
  have hp := ((((((((((h.put 0 a0).put 1 a1).put 2 a2).put 3 a3).put 4 a4).put 5 a5).put 6 a6).put 7 a7).put 8 a8).put 9 a9)
  simp only [List.setIfInBounds_toArray, List.set_cons_zero, List.set_cons_succ] at hp
  refine ⟨hp, by simp [World.setCell], fun k hk => ?_, fun n hn => ?_⟩
  · repeat rw [Below.heap_setCell _ _ _ k (by exact hk)]
  · repeat refine Below.setCell ?_ (by exact hn) _
    exact Below.refl _ _
theorem posU_len (l : List Int) (u : Int) : posU l u ≤ l.length := by
  unfold posU
  split
  · rename_i h
    have := (List.getElem?_eq_some_iff.1 h).1
    omega
  · omega

set_option maxRecDepth 100000 in
set_option maxHeartbeats 3200000 in
theorem arrived_any (B vb ib : Nat) (v : Value) (l : List Int) (g : Bool) (kind : Int) (uid : Nat) (fl : Int) (w : World) (h : VwM w B vb ib v l g) (ha : asc l) (hl : l.length ≤ 100000) (huid : uid < 4294967296) :
    Calls Tryz.prog 27 #[.pointer (some ⟨vb, 0, none⟩), .agg #[.int .i64 kind, .int .u32 (uid : Nat), .int .u8 fl]] w fun e w' => e = .returned (.tuple #[.agg #[.int .i64 0, .int .u32 0, .string ⟨#[]⟩, .int .i64 0, .string ⟨#[]⟩, .int .i64 0, .int .u8 0, .int .u32 0, .int .u32 0, .slice none 0 0], .bool false]) ∧ ∃ v', VwM w' B vb ib v' (if appB l uid then l ++ [(uid : Int)] else l) (g || appB l uid) ∧ FrV w w' B vb ib v v' := by
  have HAp : Hid (∀ W, IdxM W B ib v l → Calls Tryz.prog 37 #[.pointer (some ⟨ib, 0, none⟩), .int .u32 (uid : Nat)] W fun e w' => e = .returned (.bool (appB l uid)) ∧ ∃ v', IdxM w' B ib v' (if appB l uid then l ++ [(uid : Int)] else l) ∧ (∀ n, n ≤ B → Below n W w') ∧ Kp1 W w' ib v v' ∧ W.heap.size ≤ w'.heap.size) := Lib.hid (fun W hW => by
    by_cases h0 : uid = 0
    · subst h0
      refine (iappend_zero ib W).mono ?_
      rintro e w' ⟨rfl, hb⟩
      have e0 : appB l ((0 : Nat) : Int) = false := by unfold appB; simp
      rw [e0]
      exact ⟨rfl, v, by rw [if_neg Bool.false_ne_true]; exact hW.below hb (Nat.le_refl _), fun n hn => hb.mono (Nat.le_trans hn hW.base), Kp1.of_below hb _ _, hb.size⟩
    · exact iappend_any B ib v l uid W hW ha (by omega) (by omega))
  obtain ⟨ok, hok⟩ : ∃ ok, appB l uid = ok := ⟨_, rfl⟩
  rw [hok] at HAp ⊢
  obtain ⟨L2, hL2⟩ : ∃ L2, (if ok = true then l ++ [(uid : Int)] else l) = L2 := ⟨_, rfl⟩
  rw [hL2] at HAp ⊢
  obtain ⟨G2, hG2⟩ : ∃ G2, (g || ok) = G2 := ⟨_, rfl⟩
  rw [hG2]
  have HG := Lib.hid hG2
  clear hok hL2 hG2 ha hl
  have hB := h.base
  have hkb := h.1
  have hvl := h.1.lt
  have hil := h.2.1.1.lt
  have ke := (Blk.made w 46 #[.int .i64 kind, .int .u32 (uid : Nat), .int .u8 fl]).past (.cells #[.int .i64 0, .int .u32 0, .string ⟨#[]⟩, .int .i64 0, .string ⟨#[]⟩, .int .i64 0, .int .u8 0, .int .u32 0, .int .u32 0, .slice none 0 0] 49)
  have kr := Blk.made (w.alloc (.cells #[.int .i64 kind, .int .u32 (uid : Nat), .int .u8 fl] 46)) 49 #[.int .i64 0, .int .u32 0, .string ⟨#[]⟩, .int .i64 0, .string ⟨#[]⟩, .int .i64 0, .int .u8 0, .int .u32 0, .int .u32 0, .slice none 0 0]
  rw [World.size_alloc] at kr
  have hb0 : Below w.heap.size w ((w.alloc (.cells #[.int .i64 kind, .int .u32 (uid : Nat), .int .u8 fl] 46)).alloc (.cells #[.int .i64 0, .int .u32 0, .string ⟨#[]⟩, .int .i64 0, .string ⟨#[]⟩, .int .i64 0, .int .u8 0, .int .u32 0, .int .u32 0, .slice none 0 0] 49)) := ((Below.refl _ w).alloc (Nat.le_refl _) _).alloc (by rw [World.size_alloc]; omega) _
  obtain ⟨W0, hW0⟩ : ∃ W0, (w.alloc (.cells #[.int .i64 kind, .int .u32 (uid : Nat), .int .u8 fl] 46)).alloc (.cells #[.int .i64 0, .int .u32 0, .string ⟨#[]⟩, .int .i64 0, .string ⟨#[]⟩, .int .i64 0, .int .u8 0, .int .u32 0, .int .u32 0, .slice none 0 0] 49) = W0 := ⟨_, rfl⟩
  have hsz : W0.heap.size = w.heap.size + 2 := by rw [← hW0, World.size_alloc, World.size_alloc]
  rw [hW0] at hb0 ke kr
  have hbd : Below w.heap.size w W0.drew := Below.drew hb0
  have H0 := Lib.hid (show VwM W0.drew B vb ib v l g ∧ Blk W0.drew w.heap.size 46 #[.int .i64 kind, .int .u32 (uid : Nat), .int .u8 fl] ∧ Blk W0.drew (w.heap.size + 1) 49 #[.int .i64 0, .int .u32 0, .string ⟨#[]⟩, .int .i64 0, .string ⟨#[]⟩, .int .i64 0, .int .u8 0, .int .u32 0, .int .u32 0, .slice none 0 0] ∧ FrV w W0.drew B vb ib v v ∧ W0.drew.heap.size = w.heap.size + 2 from ⟨h.below hbd (Nat.le_refl _), ke.drew, kr.drew, FrV.of_below hbd hB _ _ _, hsz⟩)
  have HH := Lib.hid (And.intro h (And.intro hB (And.intro hvl hil)))
  clear h hkb hvl hil ke kr hb0 hbd
  go_enter Tryz.func27, Tryz.ntmps27
  go_upto_region 1 with fail
  clear hW0
  refine region_anyC (fun W => Blk W vb 53 #[.pointer (some ⟨ib, 0, none⟩), .bool g] ∧ Blk W w.heap.size 46 #[.int .i64 kind, .int .u32 (uid : Nat), .int .u8 fl]) (by kernel_rfl) ?_
  refine anyC_take (i := 0) (v := ?_) rfl (by kernel_rfl) (by kernel_rfl) (by kernel_rfl) (fun _ _ _ h => h) (And.intro H0.out.1.1 H0.out.2.1) (Or.inl ⟨by rfl, ?_⟩) ?_
  rotate_left
  · intro W hW
    go_simp
    try with_reducible rfl
  try simp only [List.getElem_toArray, List.getElem_cons_zero, List.getElem_cons_succ, Act.put, List.setIfInBounds_toArray, List.set_cons_zero, List.set_cons_succ]
  refine anyC_take (i := 1) (v := ?_) rfl (by kernel_rfl) (by kernel_rfl) (by kernel_rfl) (fun _ _ _ h => h) (And.intro H0.out.1.1 H0.out.2.1) (Or.inl ⟨by rfl, ?_⟩) ?_
  rotate_left
  · intro W hW
    go_simp
    try with_reducible rfl
  try simp only [List.getElem_toArray, List.getElem_cons_zero, List.getElem_cons_succ, Act.put, List.setIfInBounds_toArray, List.set_cons_zero, List.set_cons_succ]
  refine anyC_take (i := 2) (v := ?_) rfl (by kernel_rfl) (by kernel_rfl) (by kernel_rfl) (fun _ _ _ h => h) (And.intro H0.out.1.1 H0.out.2.1) (Or.inl ⟨by rfl, ?_⟩) ?_
  rotate_left
  · intro W hW
    go_simp
    try with_reducible rfl
  try simp only [List.getElem_toArray, List.getElem_cons_zero, List.getElem_cons_succ, Act.put, List.setIfInBounds_toArray, List.set_cons_zero, List.set_cons_succ]
  refine anyC_take (i := 4) (v := ?_) rfl (by kernel_rfl) (by kernel_rfl) (by kernel_rfl) (fun _ _ _ h => h) (And.intro H0.out.1.1 H0.out.2.1) (Or.inl ⟨by rfl, ?_⟩) ?_
  rotate_left
  · intro W hW
    go_simp
    try with_reducible rfl
  try simp only [List.getElem_toArray, List.getElem_cons_zero, List.getElem_cons_succ, Act.put, List.setIfInBounds_toArray, List.set_cons_zero, List.set_cons_succ]
  refine anyC_take (i := 3) (v := ?_) rfl (by kernel_rfl) (by kernel_rfl) (by kernel_rfl) (fun _ _ _ h => h) (And.intro H0.out.1.1 H0.out.2.1) (Or.inl ⟨by rfl, ?_⟩) ?_
  rotate_left
  · intro W hW
    have x : W.cell? ⟨vb, 0, none⟩ = some (.pointer (some ⟨ib, 0, none⟩)) := hW.1.cell 0
    go_simp
    try with_reducible rfl
  try simp only [List.getElem_toArray, List.getElem_cons_zero, List.getElem_cons_succ, Act.put, List.setIfInBounds_toArray, List.set_cons_zero, List.set_cons_succ]
  refine anyC_take (i := 5) (v := ?_) rfl (by kernel_rfl) (by kernel_rfl) (by kernel_rfl) (fun _ _ _ h => h) (And.intro H0.out.1.1 H0.out.2.1) (Or.inl ⟨by rfl, ?_⟩) ?_
  rotate_left
  · intro W hW
    have x : W.cell? ⟨w.heap.size, 1, none⟩ = some (.int .u32 (uid : Nat)) := hW.2.cell 1
    go_simp
    try with_reducible rfl
  try simp only [List.getElem_toArray, List.getElem_cons_zero, List.getElem_cons_succ, Act.put, List.setIfInBounds_toArray, List.set_cons_zero, List.set_cons_succ]
  refine anyC_one (i := 6) (by kernel_rfl) (fun K hK => ⟨_, rfl, by kernel_rfl, ?_⟩)
  go_simp
  refine (HAp.out _ H0.out.1.2.1).mono ?_
  rintro e w1 ⟨rfl, v1, hi1, hb1, hk1, hs1⟩
  have hfr := H0.out.2.2.2.1.trans (FrV.of_idx hb1 hk1 hs1 vb)
  have hvw := H0.out.1.idx hi1 hk1
  have hRo : ∀ j, j < w.heap.size + 2 → w.heap.size ≤ j → w1.heap[j]? = W0.drew.heap[j]? ∧ v1.ownBlock ≠ some j := fun j hj hj2 => hk1 j (by rw [H0.out.2.2.2.2]; exact hj) (by have := HH.out.2.2.2; omega) (fun e => by have := HH.out.1.2.1.own_lt j e; omega)
  have H1 := Lib.hid (show VwM w1 B vb ib v1 L2 g ∧ FrV w w1 B vb ib v v1 ∧ Blk w1 (w.heap.size + 1) 49 #[.int .i64 0, .int .u32 0, .string ⟨#[]⟩, .int .i64 0, .string ⟨#[]⟩, .int .i64 0, .int .u8 0, .int .u32 0, .int .u32 0, .slice none 0 0] ∧ (w.heap.size + 1 ≠ vb) ∧ (w.heap.size + 1 ≠ ib) ∧ v1.ownBlock ≠ some (w.heap.size + 1) from ⟨hvw, hfr, (hRo (w.heap.size + 1) (by omega) (by omega)).1.trans H0.out.2.2.1, by have := HH.out.2.2.1; omega, by have := HH.out.2.2.2; omega, (hRo (w.heap.size + 1) (by omega) (by omega)).2⟩)
  have HE1 : Hid (Blk w1 w.heap.size 46 #[.int .i64 kind, .int .u32 (uid : Nat), .int .u8 fl]) := Lib.hid ((hRo w.heap.size (by omega) (by omega)).1.trans H0.out.2.1)
  clear hfr hvw hRo hi1 hb1 hk1 hs1
  refine hK _ _ (And.intro H1.out.1.1 HE1.out) ?_
  clear hK K
  try simp only [List.getElem_toArray, List.getElem_cons_zero, List.getElem_cons_succ, Act.put, List.setIfInBounds_toArray, List.set_cons_zero, List.set_cons_succ]
  refine anyC_done (by kernel_rfl) ?_ _
  cases ok with
  | true =>
    have HV : Hid (VwM (w1.setCell ⟨vb, 1, none⟩ (.bool true)) B vb ib v1 L2 true ∧ FrV w (w1.setCell ⟨vb, 1, none⟩ (.bool true)) B vb ib v v1 ∧ Blk (w1.setCell ⟨vb, 1, none⟩ (.bool true)) (w.heap.size + 1) 49 #[.int .i64 0, .int .u32 0, .string ⟨#[]⟩, .int .i64 0, .string ⟨#[]⟩, .int .i64 0, .int .u8 0, .int .u32 0, .int .u32 0, .slice none 0 0]) := Lib.hid ⟨H1.out.1.grow true, H1.out.2.1.grow HH.out.1.2.2.2.2 _, H1.out.2.2.1.far (p := ⟨vb, 1, none⟩) (by show w.heap.size + 1 ≠ vb; have := HH.out.2.2.1; omega) _⟩
    have y1 : w1.cell? ⟨vb, 1, none⟩ = some (.bool g) := H1.out.1.1.cell 1
    have yf : w1.frozen? ⟨vb, 1, none⟩ = false := H1.out.1.1.frz 1
    obtain ⟨⟨d0, d1, d2, d3, d4, d5, d6, d7, d8, d9⟩, ⟨z0, z1, z2, z3, z4, z5, z6, z7, z8, z9⟩⟩ := Blk.ten HV.out.2.2
    have HG2 : Hid (G2 = true) := Lib.hid (by rw [← HG.out]; simp)
    go_wp2_with fail
    obtain ⟨p1, p2, p3, p4⟩ := put_ten HV.out.2.2 (.int .i64 0) (.int .u32 0) (.string ⟨#[]⟩) (.int .i64 0) (.string ⟨#[]⟩) (.int .i64 0) (.int .u8 0) (.int .u32 0) (.int .u32 0) (.slice none 0 0)
    refine bodyPost_ret (v := .tuple #[.agg #[.int .i64 0, .int .u32 0, .string ⟨#[]⟩, .int .i64 0, .string ⟨#[]⟩, .int .i64 0, .int .u8 0, .int .u32 0, .int .u32 0, .slice none 0 0], .bool false]) (results_ten2 (by rfl) (by rfl) (by rfl) p1) rfl ⟨rfl, v1, ?_, ?_⟩
    · rw [HG2.out]; exact HV.out.1.only p3 (by rw [p2]; exact Nat.le_refl _) H1.out.2.2.2.1 H1.out.2.2.2.2.1 H1.out.2.2.2.2.2
    · exact HV.out.2.1.only p3 p4 (by omega) HH.out.2.1
  | false =>
    have HG2 : Hid (G2 = g) := Lib.hid (by rw [← HG.out]; simp)
    obtain ⟨⟨d0, d1, d2, d3, d4, d5, d6, d7, d8, d9⟩, ⟨z0, z1, z2, z3, z4, z5, z6, z7, z8, z9⟩⟩ := Blk.ten H1.out.2.2.1
    go_wp2_with fail
    obtain ⟨p1, p2, p3, p4⟩ := put_ten H1.out.2.2.1 (.int .i64 0) (.int .u32 0) (.string ⟨#[]⟩) (.int .i64 0) (.string ⟨#[]⟩) (.int .i64 0) (.int .u8 0) (.int .u32 0) (.int .u32 0) (.slice none 0 0)
    refine bodyPost_ret (v := .tuple #[.agg #[.int .i64 0, .int .u32 0, .string ⟨#[]⟩, .int .i64 0, .string ⟨#[]⟩, .int .i64 0, .int .u8 0, .int .u32 0, .int .u32 0, .slice none 0 0], .bool false]) (results_ten2 (by rfl) (by rfl) (by rfl) p1) rfl ⟨rfl, v1, ?_, ?_⟩
    · rw [HG2.out]; exact H1.out.1.only p3 (by rw [p2]; exact Nat.le_refl _) H1.out.2.2.2.1 H1.out.2.2.2.2.1 H1.out.2.2.2.2.2
    · exact H1.out.2.1.only p3 p4 (by omega) HH.out.2.1

set_option maxRecDepth 100000 in
set_option maxHeartbeats 3200000 in
theorem gone_any (B vb ib : Nat) (v : Value) (l : List Int) (g : Bool) (kind : Int) (uid : Nat) (fl : Int) (w : World) (h : VwM w B vb ib v l g) (ha : asc l) (hl : l.length ≤ 100000) :
    Calls Tryz.prog 28 #[.pointer (some ⟨vb, 0, none⟩), .agg #[.int .i64 kind, .int .u32 (uid : Nat), .int .u8 fl]] w fun e w' => e = .returned (.tuple #[.agg #[.int .i64 3, .int .u32 (posU l uid : Nat), .string ⟨#[]⟩, .int .i64 0, .string ⟨#[]⟩, .int .i64 0, .int .u8 0, .int .u32 0, .int .u32 0, .slice none 0 0], .bool (decide (0 < posU l uid))]) ∧ ∃ v', VwM w' B vb ib v' (cutU l uid) g ∧ FrV w w' B vb ib v v' := by
  have HRm := Lib.hid (fun W (hW : IdxM W B ib v l) => iremove_any B ib v l uid W hW ha (by omega))
  have hpl := posU_len l uid
  obtain ⟨p, hp⟩ : ∃ p, posU l uid = p := ⟨_, rfl⟩
  obtain ⟨L2, hL2⟩ : ∃ L2, cutU l uid = L2 := ⟨_, rfl⟩
  rw [hp] at HRm hpl ⊢
  rw [hL2] at HRm ⊢
  have hpd : decide ((0 : Int) < (p : Int)) = decide (0 < p) := by
    by_cases h0 : 0 < p
    · rw [decide_eq_true h0, decide_eq_true (by omega)]
    · rw [decide_eq_false h0, decide_eq_false (by omega)]
  have hpb : p ≤ 100000 := by omega
  have HC := Lib.hid (fun W => count_any 3 (p : Int) W (by omega) (by omega))
  clear hp hL2 ha hl hpl
  have hB := h.base
  have hkb := h.1
  have hvl := h.1.lt
  have hil := h.2.1.1.lt
  have ke := (Blk.made w 46 #[.int .i64 kind, .int .u32 (uid : Nat), .int .u8 fl]).past (.cells #[.int .i64 0, .int .u32 0, .string ⟨#[]⟩, .int .i64 0, .string ⟨#[]⟩, .int .i64 0, .int .u8 0, .int .u32 0, .int .u32 0, .slice none 0 0] 49)
  have kr := Blk.made (w.alloc (.cells #[.int .i64 kind, .int .u32 (uid : Nat), .int .u8 fl] 46)) 49 #[.int .i64 0, .int .u32 0, .string ⟨#[]⟩, .int .i64 0, .string ⟨#[]⟩, .int .i64 0, .int .u8 0, .int .u32 0, .int .u32 0, .slice none 0 0]
  rw [World.size_alloc] at kr
  have hb0 : Below w.heap.size w ((w.alloc (.cells #[.int .i64 kind, .int .u32 (uid : Nat), .int .u8 fl] 46)).alloc (.cells #[.int .i64 0, .int .u32 0, .string ⟨#[]⟩, .int .i64 0, .string ⟨#[]⟩, .int .i64 0, .int .u8 0, .int .u32 0, .int .u32 0, .slice none 0 0] 49)) := ((Below.refl _ w).alloc (Nat.le_refl _) _).alloc (by rw [World.size_alloc]; omega) _
  obtain ⟨W0, hW0⟩ : ∃ W0, (w.alloc (.cells #[.int .i64 kind, .int .u32 (uid : Nat), .int .u8 fl] 46)).alloc (.cells #[.int .i64 0, .int .u32 0, .string ⟨#[]⟩, .int .i64 0, .string ⟨#[]⟩, .int .i64 0, .int .u8 0, .int .u32 0, .int .u32 0, .slice none 0 0] 49) = W0 := ⟨_, rfl⟩
  have hsz : W0.heap.size = w.heap.size + 2 := by rw [← hW0, World.size_alloc, World.size_alloc]
  rw [hW0] at hb0 ke kr
  have hbd : Below w.heap.size w W0.drew := Below.drew hb0
  have H0 := Lib.hid (show VwM W0.drew B vb ib v l g ∧ Blk W0.drew w.heap.size 46 #[.int .i64 kind, .int .u32 (uid : Nat), .int .u8 fl] ∧ Blk W0.drew (w.heap.size + 1) 49 #[.int .i64 0, .int .u32 0, .string ⟨#[]⟩, .int .i64 0, .string ⟨#[]⟩, .int .i64 0, .int .u8 0, .int .u32 0, .int .u32 0, .slice none 0 0] ∧ FrV w W0.drew B vb ib v v ∧ W0.drew.heap.size = w.heap.size + 2 from ⟨h.below hbd (Nat.le_refl _), ke.drew, kr.drew, FrV.of_below hbd hB _ _ _, hsz⟩)
  have HH := Lib.hid (And.intro h (And.intro hB (And.intro hvl hil)))
  clear h hkb hvl hil ke kr hb0 hbd
  go_enter Tryz.func28, Tryz.ntmps28
  go_upto_region 1 with fail
  clear hW0
  refine region_anyC (fun W => Blk W vb 53 #[.pointer (some ⟨ib, 0, none⟩), .bool g] ∧ Blk W w.heap.size 46 #[.int .i64 kind, .int .u32 (uid : Nat), .int .u8 fl]) (by kernel_rfl) ?_
  refine anyC_take (i := 0) (v := ?_) rfl (by kernel_rfl) (by kernel_rfl) (by kernel_rfl) (fun _ _ _ h => h) (And.intro H0.out.1.1 H0.out.2.1) (Or.inl ⟨by rfl, ?_⟩) ?_
  rotate_left
  · intro W hW
    go_simp
    try with_reducible rfl
  try simp only [List.getElem_toArray, List.getElem_cons_zero, List.getElem_cons_succ, Act.put, List.setIfInBounds_toArray, List.set_cons_zero, List.set_cons_succ]
  refine anyC_take (i := 1) (v := ?_) rfl (by kernel_rfl) (by kernel_rfl) (by kernel_rfl) (fun _ _ _ h => h) (And.intro H0.out.1.1 H0.out.2.1) (Or.inl ⟨by rfl, ?_⟩) ?_
  rotate_left
  · intro W hW
    go_simp
    try with_reducible rfl
  try simp only [List.getElem_toArray, List.getElem_cons_zero, List.getElem_cons_succ, Act.put, List.setIfInBounds_toArray, List.set_cons_zero, List.set_cons_succ]
  refine anyC_take (i := 2) (v := ?_) rfl (by kernel_rfl) (by kernel_rfl) (by kernel_rfl) (fun _ _ _ h => h) (And.intro H0.out.1.1 H0.out.2.1) (Or.inl ⟨by rfl, ?_⟩) ?_
  rotate_left
  · intro W hW
    go_simp
    try with_reducible rfl
  try simp only [List.getElem_toArray, List.getElem_cons_zero, List.getElem_cons_succ, Act.put, List.setIfInBounds_toArray, List.set_cons_zero, List.set_cons_succ]
  refine anyC_take (i := 4) (v := ?_) rfl (by kernel_rfl) (by kernel_rfl) (by kernel_rfl) (fun _ _ _ h => h) (And.intro H0.out.1.1 H0.out.2.1) (Or.inl ⟨by rfl, ?_⟩) ?_
  rotate_left
  · intro W hW
    go_simp
    try with_reducible rfl
  try simp only [List.getElem_toArray, List.getElem_cons_zero, List.getElem_cons_succ, Act.put, List.setIfInBounds_toArray, List.set_cons_zero, List.set_cons_succ]
  refine anyC_take (i := 3) (v := ?_) rfl (by kernel_rfl) (by kernel_rfl) (by kernel_rfl) (fun _ _ _ h => h) (And.intro H0.out.1.1 H0.out.2.1) (Or.inl ⟨by rfl, ?_⟩) ?_
  rotate_left
  · intro W hW
    have x : W.cell? ⟨vb, 0, none⟩ = some (.pointer (some ⟨ib, 0, none⟩)) := hW.1.cell 0
    go_simp
    try with_reducible rfl
  try simp only [List.getElem_toArray, List.getElem_cons_zero, List.getElem_cons_succ, Act.put, List.setIfInBounds_toArray, List.set_cons_zero, List.set_cons_succ]
  refine anyC_take (i := 5) (v := ?_) rfl (by kernel_rfl) (by kernel_rfl) (by kernel_rfl) (fun _ _ _ h => h) (And.intro H0.out.1.1 H0.out.2.1) (Or.inl ⟨by rfl, ?_⟩) ?_
  rotate_left
  · intro W hW
    have x : W.cell? ⟨w.heap.size, 1, none⟩ = some (.int .u32 (uid : Nat)) := hW.2.cell 1
    go_simp
    try with_reducible rfl
  try simp only [List.getElem_toArray, List.getElem_cons_zero, List.getElem_cons_succ, Act.put, List.setIfInBounds_toArray, List.set_cons_zero, List.set_cons_succ]
  refine anyC_one (i := 6) (by kernel_rfl) (fun K hK => ⟨_, rfl, by kernel_rfl, ?_⟩)
  go_simp
  refine (HRm.out _ H0.out.1.2.1).mono ?_
  rintro e w1 ⟨rfl, v1, hi1, hb1, hk1, hs1⟩
  have hfr := H0.out.2.2.2.1.trans (FrV.of_idx hb1 hk1 hs1 vb)
  have hvw := H0.out.1.idx hi1 hk1
  have hRo : ∀ j, j < w.heap.size + 2 → w.heap.size ≤ j → w1.heap[j]? = W0.drew.heap[j]? ∧ v1.ownBlock ≠ some j := fun j hj hj2 => hk1 j (by rw [H0.out.2.2.2.2]; exact hj) (by have := HH.out.2.2.2; omega) (fun e => by have := HH.out.1.2.1.own_lt j e; omega)
  have H1 := Lib.hid (show VwM w1 B vb ib v1 L2 g ∧ FrV w w1 B vb ib v v1 ∧ Blk w1 (w.heap.size + 1) 49 #[.int .i64 0, .int .u32 0, .string ⟨#[]⟩, .int .i64 0, .string ⟨#[]⟩, .int .i64 0, .int .u8 0, .int .u32 0, .int .u32 0, .slice none 0 0] ∧ (w.heap.size + 1 ≠ vb) ∧ (w.heap.size + 1 ≠ ib) ∧ v1.ownBlock ≠ some (w.heap.size + 1) from ⟨hvw, hfr, (hRo (w.heap.size + 1) (by omega) (by omega)).1.trans H0.out.2.2.1, by have := HH.out.2.2.1; omega, by have := HH.out.2.2.2; omega, (hRo (w.heap.size + 1) (by omega) (by omega)).2⟩)
  have HE1 : Hid (Blk w1 w.heap.size 46 #[.int .i64 kind, .int .u32 (uid : Nat), .int .u8 fl]) := Lib.hid ((hRo w.heap.size (by omega) (by omega)).1.trans H0.out.2.1)
  clear hfr hvw hRo hi1 hb1 hk1 hs1
  refine hK _ _ (And.intro H1.out.1.1 HE1.out) ?_
  clear hK K
  try simp only [List.getElem_toArray, List.getElem_cons_zero, List.getElem_cons_succ, Act.put, List.setIfInBounds_toArray, List.set_cons_zero, List.set_cons_succ]
  refine anyC_take (i := 7) (v := ?_) rfl (by kernel_rfl) (by kernel_rfl) (by kernel_rfl) (fun _ _ _ h => h) (And.intro H1.out.1.1 HE1.out) (Or.inl ⟨by rfl, ?_⟩) ?_
  rotate_left
  · intro W hW
    go_simp
    try with_reducible rfl
  try simp only [List.getElem_toArray, List.getElem_cons_zero, List.getElem_cons_succ, Act.put, List.setIfInBounds_toArray, List.set_cons_zero, List.set_cons_succ]
  refine anyC_done (by kernel_rfl) ?_ _
  go_wp2_with fail
  refine (HC.out _).mono ?_
  rintro e w2 ⟨rfl, hb2⟩
  have HV := Lib.hid (show VwM w2 B vb ib v1 L2 g ∧ FrV w w2 B vb ib v v1 ∧ Blk w2 (w.heap.size + 1) 49 #[.int .i64 0, .int .u32 0, .string ⟨#[]⟩, .int .i64 0, .string ⟨#[]⟩, .int .i64 0, .int .u8 0, .int .u32 0, .int .u32 0, .slice none 0 0] from ⟨H1.out.1.below hb2 (Nat.le_refl _), H1.out.2.1.trans (FrV.of_below hb2 (Nat.le_trans HH.out.2.1 H1.out.2.1.2.2) _ _ _), H1.out.2.2.1.below hb2 H1.out.2.2.1.lt⟩)
  clear hb2
  obtain ⟨⟨d0, d1, d2, d3, d4, d5, d6, d7, d8, d9⟩, ⟨z0, z1, z2, z3, z4, z5, z6, z7, z8, z9⟩⟩ := Blk.ten HV.out.2.2
  go_wp2_with fail
  obtain ⟨p1, p2, p3, p4⟩ := put_ten HV.out.2.2 (.int .i64 3) (.int .u32 (p : Int)) (.string ⟨#[]⟩) (.int .i64 0) (.string ⟨#[]⟩) (.int .i64 0) (.int .u8 0) (.int .u32 0) (.int .u32 0) (.slice none 0 0)
  refine bodyPost_ret (v := .tuple #[.agg #[.int .i64 3, .int .u32 (p : Int), .string ⟨#[]⟩, .int .i64 0, .string ⟨#[]⟩, .int .i64 0, .int .u8 0, .int .u32 0, .int .u32 0, .slice none 0 0], .bool (decide (0 < p))]) (results_ten2 (by rfl) (by rfl) (by first | rfl | exact congrArg Value.bool hpd) p1) rfl ⟨rfl, v1, ?_, ?_⟩
  · exact HV.out.1.only p3 (by rw [p2]; exact Nat.le_refl _) H1.out.2.2.2.1 H1.out.2.2.2.2.1 H1.out.2.2.2.2.2
  · exact HV.out.2.1.only p3 p4 (by omega) HH.out.2.1

set_option maxRecDepth 100000 in
set_option maxHeartbeats 3200000 in
theorem changed_any (B vb ib : Nat) (v : Value) (l : List Int) (g : Bool) (kind : Int) (uid : Nat) (fl : Int) (w : World) (h : VwM w B vb ib v l g) (ha : asc l) (hl : l.length ≤ 100000) :
    Calls Tryz.prog 29 #[.pointer (some ⟨vb, 0, none⟩), .agg #[.int .i64 kind, .int .u32 (uid : Nat), .int .u8 fl]] w fun e w' => e = .returned (.tuple #[.agg #[.int .i64 4, .int .u32 (posU l uid : Nat), .string ⟨#[]⟩, .int .i64 0, .string ⟨#[]⟩, .int .i64 1, .int .u8 fl, .int .u32 0, .int .u32 0, .slice none 0 0], .bool (decide (0 < posU l uid))]) ∧ ∃ v', VwM w' B vb ib v' l g ∧ FrV w w' B vb ib v v' := by
  have HPs := Lib.hid (fun W (hW : IdxM W B ib v l) => pos_any ib l uid W hW.read ha (by omega))
  have hpl := posU_len l uid
  obtain ⟨p, hp⟩ : ∃ p, posU l uid = p := ⟨_, rfl⟩
  rw [hp] at HPs hpl ⊢
  have hpd : decide ((0 : Int) < (p : Int)) = decide (0 < p) := by
    by_cases h0 : 0 < p
    · rw [decide_eq_true h0, decide_eq_true (by omega)]
    · rw [decide_eq_false h0, decide_eq_false (by omega)]
  have hpb : p ≤ 100000 := by omega
  have HC := Lib.hid (fun W => flags_any (p : Int) fl W (by omega) (by omega))
  clear hp ha hl hpl
  have hB := h.base
  have hkb := h.1
  have hvl := h.1.lt
  have hil := h.2.1.1.lt
  have ke := (Blk.made w 46 #[.int .i64 kind, .int .u32 (uid : Nat), .int .u8 fl]).past (.cells #[.int .i64 0, .int .u32 0, .string ⟨#[]⟩, .int .i64 0, .string ⟨#[]⟩, .int .i64 0, .int .u8 0, .int .u32 0, .int .u32 0, .slice none 0 0] 49)
  have kr := Blk.made (w.alloc (.cells #[.int .i64 kind, .int .u32 (uid : Nat), .int .u8 fl] 46)) 49 #[.int .i64 0, .int .u32 0, .string ⟨#[]⟩, .int .i64 0, .string ⟨#[]⟩, .int .i64 0, .int .u8 0, .int .u32 0, .int .u32 0, .slice none 0 0]
  rw [World.size_alloc] at kr
  have hb0 : Below w.heap.size w ((w.alloc (.cells #[.int .i64 kind, .int .u32 (uid : Nat), .int .u8 fl] 46)).alloc (.cells #[.int .i64 0, .int .u32 0, .string ⟨#[]⟩, .int .i64 0, .string ⟨#[]⟩, .int .i64 0, .int .u8 0, .int .u32 0, .int .u32 0, .slice none 0 0] 49)) := ((Below.refl _ w).alloc (Nat.le_refl _) _).alloc (by rw [World.size_alloc]; omega) _
  obtain ⟨W0, hW0⟩ : ∃ W0, (w.alloc (.cells #[.int .i64 kind, .int .u32 (uid : Nat), .int .u8 fl] 46)).alloc (.cells #[.int .i64 0, .int .u32 0, .string ⟨#[]⟩, .int .i64 0, .string ⟨#[]⟩, .int .i64 0, .int .u8 0, .int .u32 0, .int .u32 0, .slice none 0 0] 49) = W0 := ⟨_, rfl⟩
  have hsz : W0.heap.size = w.heap.size + 2 := by rw [← hW0, World.size_alloc, World.size_alloc]
  rw [hW0] at hb0 ke kr
  have hbd : Below w.heap.size w W0.drew := Below.drew hb0
  have H0 := Lib.hid (show VwM W0.drew B vb ib v l g ∧ Blk W0.drew w.heap.size 46 #[.int .i64 kind, .int .u32 (uid : Nat), .int .u8 fl] ∧ Blk W0.drew (w.heap.size + 1) 49 #[.int .i64 0, .int .u32 0, .string ⟨#[]⟩, .int .i64 0, .string ⟨#[]⟩, .int .i64 0, .int .u8 0, .int .u32 0, .int .u32 0, .slice none 0 0] ∧ FrV w W0.drew B vb ib v v ∧ W0.drew.heap.size = w.heap.size + 2 from ⟨h.below hbd (Nat.le_refl _), ke.drew, kr.drew, FrV.of_below hbd hB _ _ _, hsz⟩)
  have HH := Lib.hid (And.intro h (And.intro hB (And.intro hvl hil)))
  clear h hkb hvl hil ke kr hb0 hbd
  go_enter Tryz.func29, Tryz.ntmps29
  go_upto_region 1 with fail
  clear hW0
  refine region_anyC (fun W => Blk W vb 53 #[.pointer (some ⟨ib, 0, none⟩), .bool g] ∧ Blk W w.heap.size 46 #[.int .i64 kind, .int .u32 (uid : Nat), .int .u8 fl]) (by kernel_rfl) ?_
  refine anyC_take (i := 0) (v := ?_) rfl (by kernel_rfl) (by kernel_rfl) (by kernel_rfl) (fun _ _ _ h => h) (And.intro H0.out.1.1 H0.out.2.1) (Or.inl ⟨by rfl, ?_⟩) ?_
  rotate_left
  · intro W hW
    go_simp
    try with_reducible rfl
  try simp only [List.getElem_toArray, List.getElem_cons_zero, List.getElem_cons_succ, Act.put, List.setIfInBounds_toArray, List.set_cons_zero, List.set_cons_succ]
  refine anyC_take (i := 1) (v := ?_) rfl (by kernel_rfl) (by kernel_rfl) (by kernel_rfl) (fun _ _ _ h => h) (And.intro H0.out.1.1 H0.out.2.1) (Or.inl ⟨by rfl, ?_⟩) ?_
  rotate_left
  · intro W hW
    go_simp
    try with_reducible rfl
  try simp only [List.getElem_toArray, List.getElem_cons_zero, List.getElem_cons_succ, Act.put, List.setIfInBounds_toArray, List.set_cons_zero, List.set_cons_succ]
  refine anyC_take (i := 2) (v := ?_) rfl (by kernel_rfl) (by kernel_rfl) (by kernel_rfl) (fun _ _ _ h => h) (And.intro H0.out.1.1 H0.out.2.1) (Or.inl ⟨by rfl, ?_⟩) ?_
  rotate_left
  · intro W hW
    go_simp
    try with_reducible rfl
  try simp only [List.getElem_toArray, List.getElem_cons_zero, List.getElem_cons_succ, Act.put, List.setIfInBounds_toArray, List.set_cons_zero, List.set_cons_succ]
  refine anyC_take (i := 4) (v := ?_) rfl (by kernel_rfl) (by kernel_rfl) (by kernel_rfl) (fun _ _ _ h => h) (And.intro H0.out.1.1 H0.out.2.1) (Or.inl ⟨by rfl, ?_⟩) ?_
  rotate_left
  · intro W hW
    go_simp
    try with_reducible rfl
  try simp only [List.getElem_toArray, List.getElem_cons_zero, List.getElem_cons_succ, Act.put, List.setIfInBounds_toArray, List.set_cons_zero, List.set_cons_succ]
  refine anyC_take (i := 3) (v := ?_) rfl (by kernel_rfl) (by kernel_rfl) (by kernel_rfl) (fun _ _ _ h => h) (And.intro H0.out.1.1 H0.out.2.1) (Or.inl ⟨by rfl, ?_⟩) ?_
  rotate_left
  · intro W hW
    have x : W.cell? ⟨vb, 0, none⟩ = some (.pointer (some ⟨ib, 0, none⟩)) := hW.1.cell 0
    go_simp
    try with_reducible rfl
  try simp only [List.getElem_toArray, List.getElem_cons_zero, List.getElem_cons_succ, Act.put, List.setIfInBounds_toArray, List.set_cons_zero, List.set_cons_succ]
  refine anyC_take (i := 5) (v := ?_) rfl (by kernel_rfl) (by kernel_rfl) (by kernel_rfl) (fun _ _ _ h => h) (And.intro H0.out.1.1 H0.out.2.1) (Or.inl ⟨by rfl, ?_⟩) ?_
  rotate_left
  · intro W hW
    have x : W.cell? ⟨w.heap.size, 1, none⟩ = some (.int .u32 (uid : Nat)) := hW.2.cell 1
    go_simp
    try with_reducible rfl
  try simp only [List.getElem_toArray, List.getElem_cons_zero, List.getElem_cons_succ, Act.put, List.setIfInBounds_toArray, List.set_cons_zero, List.set_cons_succ]
  refine anyC_one (i := 6) (by kernel_rfl) (fun K hK => ⟨_, rfl, by kernel_rfl, ?_⟩)
  go_simp
  refine (HPs.out _ H0.out.1.2.1).mono ?_
  rintro e w1 ⟨rfl, hbp⟩
  have hi1 := H0.out.1.2.1.below hbp (Nat.le_refl _)
  have hb1 : ∀ n, n ≤ B → Below n W0.drew w1 := fun n hn => hbp.mono (Nat.le_trans hn (Nat.le_trans HH.out.2.1 (by have := H0.out.2.2.2.2; omega)))
  have hk1 := Kp1.of_below hbp ib v
  have hs1 := hbp.size
  have hfr := H0.out.2.2.2.1.trans (FrV.of_idx hb1 hk1 hs1 vb)
  have hvw := H0.out.1.idx hi1 hk1
  have hRo : ∀ j, j < w.heap.size + 2 → w.heap.size ≤ j → w1.heap[j]? = W0.drew.heap[j]? ∧ v.ownBlock ≠ some j := fun j hj hj2 => hk1 j (by rw [H0.out.2.2.2.2]; exact hj) (by have := HH.out.2.2.2; omega) (fun e => by have := HH.out.1.2.1.own_lt j e; omega)
  have H1 := Lib.hid (show VwM w1 B vb ib v l g ∧ FrV w w1 B vb ib v v ∧ Blk w1 (w.heap.size + 1) 49 #[.int .i64 0, .int .u32 0, .string ⟨#[]⟩, .int .i64 0, .string ⟨#[]⟩, .int .i64 0, .int .u8 0, .int .u32 0, .int .u32 0, .slice none 0 0] ∧ (w.heap.size + 1 ≠ vb) ∧ (w.heap.size + 1 ≠ ib) ∧ v.ownBlock ≠ some (w.heap.size + 1) from ⟨hvw, hfr, (hRo (w.heap.size + 1) (by omega) (by omega)).1.trans H0.out.2.2.1, by have := HH.out.2.2.1; omega, by have := HH.out.2.2.2; omega, (hRo (w.heap.size + 1) (by omega) (by omega)).2⟩)
  have HE1 : Hid (Blk w1 w.heap.size 46 #[.int .i64 kind, .int .u32 (uid : Nat), .int .u8 fl]) := Lib.hid ((hRo w.heap.size (by omega) (by omega)).1.trans H0.out.2.1)
  clear hfr hvw hRo hi1 hb1 hk1 hs1
  clear hbp
  refine hK _ _ (And.intro H1.out.1.1 HE1.out) ?_
  clear hK K
  try simp only [List.getElem_toArray, List.getElem_cons_zero, List.getElem_cons_succ, Act.put, List.setIfInBounds_toArray, List.set_cons_zero, List.set_cons_succ]
  refine anyC_take (i := 7) (v := ?_) rfl (by kernel_rfl) (by kernel_rfl) (by kernel_rfl) (fun _ _ _ h => h) (And.intro H1.out.1.1 HE1.out) (Or.inl ⟨by rfl, ?_⟩) ?_
  rotate_left
  · intro W hW
    go_simp
    try with_reducible rfl
  try simp only [List.getElem_toArray, List.getElem_cons_zero, List.getElem_cons_succ, Act.put, List.setIfInBounds_toArray, List.set_cons_zero, List.set_cons_succ]
  refine anyC_done (by kernel_rfl) ?_ _
  have e2 : w1.cell? ⟨w.heap.size, 2, none⟩ = some (.int .u8 fl) := HE1.out.cell 2
  go_wp2_with fail
  refine (HC.out _).mono ?_
  rintro e w2 ⟨rfl, hb2⟩
  have HV := Lib.hid (show VwM w2 B vb ib v l g ∧ FrV w w2 B vb ib v v ∧ Blk w2 (w.heap.size + 1) 49 #[.int .i64 0, .int .u32 0, .string ⟨#[]⟩, .int .i64 0, .string ⟨#[]⟩, .int .i64 0, .int .u8 0, .int .u32 0, .int .u32 0, .slice none 0 0] from ⟨H1.out.1.below hb2 (Nat.le_refl _), H1.out.2.1.trans (FrV.of_below hb2 (Nat.le_trans HH.out.2.1 H1.out.2.1.2.2) _ _ _), H1.out.2.2.1.below hb2 H1.out.2.2.1.lt⟩)
  clear hb2
  obtain ⟨⟨d0, d1, d2, d3, d4, d5, d6, d7, d8, d9⟩, ⟨z0, z1, z2, z3, z4, z5, z6, z7, z8, z9⟩⟩ := Blk.ten HV.out.2.2
  go_wp2_with fail
  obtain ⟨p1, p2, p3, p4⟩ := put_ten HV.out.2.2 (.int .i64 4) (.int .u32 (p : Int)) (.string ⟨#[]⟩) (.int .i64 0) (.string ⟨#[]⟩) (.int .i64 1) (.int .u8 fl) (.int .u32 0) (.int .u32 0) (.slice none 0 0)
  refine bodyPost_ret (v := .tuple #[.agg #[.int .i64 4, .int .u32 (p : Int), .string ⟨#[]⟩, .int .i64 0, .string ⟨#[]⟩, .int .i64 1, .int .u8 fl, .int .u32 0, .int .u32 0, .slice none 0 0], .bool (decide (0 < p))]) (results_ten2 (by rfl) (by rfl) (by first | rfl | exact congrArg Value.bool hpd) p1) rfl ⟨rfl, v, ?_, ?_⟩
  · exact HV.out.1.only p3 (by rw [p2]; exact Nat.le_refl _) H1.out.2.2.2.1 H1.out.2.2.2.2.1 H1.out.2.2.2.2.2
  · exact HV.out.2.1.only p3 p4 (by omega) HH.out.2.1
end Go.Proofs.YtponmnabbieafaaGreatDoor
