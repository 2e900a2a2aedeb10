/- Indexes and views that change: Append and Remove. -/
import Derived.Test.YtponmnabbieafaaGreatDoorResW
import Derived.Test.YtponmnabbieafaaGreatDoorVwQ
import Derived.Test.YtponmnabbieafaaGreatDoorOrd
import Derived.Lib.SlBuf
set_option linter.unusedVariables false
set_option linter.unusedSimpArgs false
namespace Go.Proofs.YtponmnabbieafaaGreatDoor
open Go Go.RowKit Go.Shelf Go.Lib Go.Sort

/-- The index at block b has the slice v, its own from B on, which reads as l. -/
def IdxM (W : World) (B b : Nat) (v : Value) (l : List Int) : Prop := Blk W b 70 #[v] ∧ Go.Proofs.YtponmnabbieafaaGreatDoor.Buf W B 1 v l.length (l.map (Value.int .u32)) ∧ v.ownBlock ≠ some b ∧ B ≤ b
theorem IdxM.read {W : World} {B b : Nat} {v : Value} {l : List Int} (h : IdxM W B b v l) : IdxR W W.heap.size b l := ⟨v, h.1.cell 0, h.1.lt, U32.of_buf h.2.1⟩
theorem IdxM.below {W W' : World} {B b n : Nat} {v : Value} {l : List Int} (h : IdxM W B b v l) (hb : Below n W W') (hn : W.heap.size ≤ n) : IdxM W' B b v l := ⟨h.1.below hb (Nat.lt_of_lt_of_le h.1.lt hn), h.2.1.below hb hn, h.2.2⟩
theorem IdxM.base {W : World} {B b : Nat} {v : Value} {l : List Int} (h : IdxM W B b v l) : B ≤ W.heap.size := Nat.le_of_lt (Nat.lt_of_le_of_lt h.2.2.2 h.1.lt)
theorem Idx.mut {w : World} {base b : Nat} {l : List Int} (h : Idx w base b l) (hb : base ≤ b) : ∃ v, IdxM w base b v l := by
  obtain ⟨v, h1, h2, h3⟩ := h
  exact ⟨v, h1, h2, by first | exact h3 | exact h3.1 | exact h3.2, hb⟩
/-- The blocks that are neither the index's nor its slice's lie still. -/
def Kp1 (w w' : World) (b : Nat) (v v' : Value) : Prop := ∀ g, g < w.heap.size → g ≠ b → v.ownBlock ≠ some g → w'.heap[g]? = w.heap[g]? ∧ v'.ownBlock ≠ some g
theorem Kp1.of_below {w w' : World} (h : Below w.heap.size w w') (b : Nat) (v : Value) : Kp1 w w' b v v := fun g hg _ ho => ⟨h.block g hg, ho⟩
theorem Kp1.refl (w : World) (b : Nat) (v : Value) : Kp1 w w b v v := fun _ _ _ h => ⟨rfl, h⟩
theorem Kp1.trans {w w1 w2 : World} {b : Nat} {v v1 v2 : Value} (h : Kp1 w w1 b v v1) (k : Kp1 w1 w2 b v1 v2) (hs : w.heap.size ≤ w1.heap.size) : Kp1 w w2 b v v2 := fun g hg hb ho => by
  obtain ⟨e1, o1⟩ := h g hg hb ho
  obtain ⟨e2, o2⟩ := k g (Nat.lt_of_lt_of_le hg hs) hb o1
  exact ⟨e2.trans e1, o2⟩

/-- 'x.uids = append(x.uids, uid)': the run, and what it keeps. -/
theorem push_idx {B b : Nat} {v : Value} {l : List Int} {W : World} (h : IdxM W B b v l) (x : Int) (hl : l.length ≤ 1048576) :
    ∃ v' g1 o1 n1 c1 w', v' = .slice (some ⟨g1, o1, none⟩) n1 c1 ∧ (Builtin.append_ #[22, 22] 22 #[v, .slice (some ⟨W.heap.size, 0, none⟩) 1 1]).run Tryz.prog (W.alloc (.cells #[.int .u32 x] 35)) = .ok v' w' ∧
      w'.frozen? ⟨b, 0, none⟩ = false ∧ (w'.cell? ⟨b, 0, none⟩).isSome = true ∧ IdxM (w'.setCell ⟨b, 0, none⟩ v') B b v' (l ++ [x]) ∧ (∀ n, n ≤ B → Below n W (w'.setCell ⟨b, 0, none⟩ v')) ∧ Kp1 W (w'.setCell ⟨b, 0, none⟩ v') b v v' := by
  obtain ⟨h1, h2, h3, h4⟩ := h
  have hBs : B ≤ W.heap.size := Nat.le_of_lt (Nat.lt_of_le_of_lt h4 h1.lt)
  obtain ⟨i0, hi, hz0, hz1, hz2⟩ := info_parts infoU32
  obtain ⟨v', w', hrun, hb', hgr, hrw⟩ := run_append_buf (P := Tryz.prog) (W.alloc (.cells #[.int .u32 x] 35)) 22 22 35 i0 _ 1 4 Tryz.underlying22 hi hz0 hz1 hz2 rfl (by decide) B v l.length _ (h2.past _) (some ⟨W.heap.size, 0, none⟩) 1 1 [.int .u32 x]
    ⟨rfl, fun y hy => by simp at hy; subst hy; rfl, fun _ => ⟨_, rfl, fun j y hj => by
      rw [Go.WideShapes.add_plain]
      simp only [World.cell?, heap_alloc_new, Nat.zero_add]
      simpa using hj⟩⟩ (by unfold maxLen; omega) (by omega) (by rw [World.size_alloc]; omega)
  have hblt := h1.lt
  have hne : v'.ownBlock ≠ some b := by
    rcases hrw with e | ⟨g, e, hg⟩
    · rw [e]; exact h3
    · rw [e]
      intro e2
      injection e2 with e2
      rw [World.size_alloc] at hg
      omega
  have hblk : Blk w' b 70 #[v] := (h1.past _).grown hgr (fun e => h3 e.symm)
  have hown : ∀ j, v.ownBlock = some j → B ≤ j := fun j e => by
    rcases h2.2 with ⟨rfl, _⟩ | ⟨g, off, cap, rfl, k1, _⟩
    · cases e
    · have e' : g = j := by simpa [Value.ownBlock] using e
      omega
  obtain ⟨g1, o1, c1, hv1⟩ : ∃ g1 o1 c1, v' = .slice (some ⟨g1, o1, none⟩) (l.length + 1) c1 := by
    rcases hb'.2 with ⟨_, e⟩ | ⟨g, off, cap, e, _⟩
    · omega
    · exact ⟨g, off, cap, e⟩
  refine ⟨v', g1, o1, _, c1, w', hv1, hrun, hblk.frz 0, ?_, ⟨?_, ?_, hne, h4⟩, fun n hn => ?_, fun g hg hgb hgo => ?_⟩
  · rw [hblk.cell 0]; rfl
  · have := hblk.put 0 v'
    exact this
  · have := hb'.far (p := ⟨b, 0, none⟩) (by exact hne) v'
    rw [List.length_append, List.map_append]
    exact this
  · exact (((Below.refl _ W).alloc (by omega) _).grown hgr (by rw [World.size_alloc]; omega) (fun j e => by have := hown j e; omega)).setCell (by show n ≤ b; omega) _
  · have hno : v'.ownBlock ≠ some g := by
      rcases hrw with e | ⟨q, e, hq⟩
      · rw [e]; exact hgo
      · rw [e]
        intro e2
        injection e2 with e2
        rw [World.size_alloc] at hq
        omega
    refine ⟨?_, hno⟩
    rw [Below.heap_setCell w' ⟨b, 0, none⟩ v' g hgb, hgr.block g (by rw [World.size_alloc]; omega) (fun e => hgo e.symm)]
    exact Below.heap_alloc W _ g hg

set_option maxRecDepth 100000 in
set_option maxHeartbeats 3200000 in
theorem iappend_zero (b : Nat) (w : World) : Calls Tryz.prog 37 #[.pointer (some ⟨b, 0, none⟩), .int .u32 0] w fun e w' => e = .returned (.bool false) ∧ Below w.heap.size w w' := by
  go_enter Tryz.func37, Tryz.ntmps37
  go_upto_region 1 with fail
  refine region_anyC (fun W => True) (by kernel_rfl) ?_
  refine anyC_take (i := 0) (v := ?_) rfl (by kernel_rfl) (by kernel_rfl) (by kernel_rfl) (fun _ _ _ h => h) (trivial) (Or.inl ⟨by rfl, ?_⟩) ?_
  rotate_left
  · intro W hW
    go_simp
    try with_reducible rfl
  try simp only [List.getElem_toArray, List.getElem_cons_zero, List.getElem_cons_succ, Act.put, List.setIfInBounds_toArray, List.set_cons_zero, List.set_cons_succ]
  refine anyC_take (i := 1) (v := ?_) rfl (by kernel_rfl) (by kernel_rfl) (by kernel_rfl) (fun _ _ _ h => h) (trivial) (Or.inl ⟨by rfl, ?_⟩) ?_
  rotate_left
  · intro W hW
    go_simp
    try with_reducible rfl
  try simp only [List.getElem_toArray, List.getElem_cons_zero, List.getElem_cons_succ, Act.put, List.setIfInBounds_toArray, List.set_cons_zero, List.set_cons_succ]
  refine anyC_take (i := 2) (v := ?_) rfl (by kernel_rfl) (by kernel_rfl) (by kernel_rfl) (fun _ _ _ h => h) (trivial) (Or.inl ⟨by rfl, ?_⟩) ?_
  rotate_left
  · intro W hW
    go_simp
    try with_reducible rfl
  try simp only [List.getElem_toArray, List.getElem_cons_zero, List.getElem_cons_succ, Act.put, List.setIfInBounds_toArray, List.set_cons_zero, List.set_cons_succ]
  refine anyC_take (i := 3) (v := ?_) rfl (by kernel_rfl) (by kernel_rfl) (by kernel_rfl) (fun _ _ _ h => h) (trivial) (Or.inl ⟨by rfl, ?_⟩) ?_
  rotate_left
  · intro W hW
    go_simp
    try with_reducible rfl
  try simp only [List.getElem_toArray, List.getElem_cons_zero, List.getElem_cons_succ, Act.put, List.setIfInBounds_toArray, List.set_cons_zero, List.set_cons_succ]
  refine anyC_take (i := 4) (v := ?_) rfl (by kernel_rfl) (by kernel_rfl) (by kernel_rfl) (fun _ _ _ h => h) (trivial) (Or.inl ⟨by rfl, ?_⟩) ?_
  rotate_left
  · intro W hW
    go_simp
    try with_reducible rfl
  try simp only [List.getElem_toArray, List.getElem_cons_zero, List.getElem_cons_succ, Act.put, List.setIfInBounds_toArray, List.set_cons_zero, List.set_cons_succ]
  refine anyC_take (i := 5) (v := ?_) rfl (by kernel_rfl) (by kernel_rfl) (by kernel_rfl) (fun _ _ _ h => h) (trivial) (Or.inl ⟨by rfl, ?_⟩) ?_
  rotate_left
  · intro W hW
    go_simp
    try with_reducible rfl
  try simp only [List.getElem_toArray, List.getElem_cons_zero, List.getElem_cons_succ, Act.put, List.setIfInBounds_toArray, List.set_cons_zero, List.set_cons_succ]
  refine anyC_take (i := 6) (v := ?_) rfl (by kernel_rfl) (by kernel_rfl) (by kernel_rfl) (fun _ _ _ h => h) (trivial) (Or.inl ⟨by rfl, ?_⟩) ?_
  rotate_left
  · intro W hW
    go_simp
    try with_reducible rfl
  try simp only [List.getElem_toArray, List.getElem_cons_zero, List.getElem_cons_succ, Act.put, List.setIfInBounds_toArray, List.set_cons_zero, List.set_cons_succ]
  refine anyC_take (i := 7) (v := undef) rfl (by kernel_rfl) (by kernel_rfl) (by kernel_rfl) (fun _ _ _ h => h) (trivial) (Or.inr ⟨by rfl, rfl⟩) ?_
  try simp only [List.getElem_toArray, List.getElem_cons_zero, List.getElem_cons_succ, Act.put, List.setIfInBounds_toArray, List.set_cons_zero, List.set_cons_succ]
  refine anyC_take (i := 8) (v := undef) rfl (by kernel_rfl) (by kernel_rfl) (by kernel_rfl) (fun _ _ _ h => h) (trivial) (Or.inr ⟨by rfl, rfl⟩) ?_
  try simp only [List.getElem_toArray, List.getElem_cons_zero, List.getElem_cons_succ, Act.put, List.setIfInBounds_toArray, List.set_cons_zero, List.set_cons_succ]
  refine anyC_take (i := 10) (v := undef) rfl (by kernel_rfl) (by kernel_rfl) (by kernel_rfl) (fun _ _ _ h => h) (trivial) (Or.inr ⟨by rfl, rfl⟩) ?_
  try simp only [List.getElem_toArray, List.getElem_cons_zero, List.getElem_cons_succ, Act.put, List.setIfInBounds_toArray, List.set_cons_zero, List.set_cons_succ]
  refine anyC_take (i := 11) (v := undef) rfl (by kernel_rfl) (by kernel_rfl) (by kernel_rfl) (fun _ _ _ h => h) (trivial) (Or.inr ⟨by rfl, rfl⟩) ?_
  try simp only [List.getElem_toArray, List.getElem_cons_zero, List.getElem_cons_succ, Act.put, List.setIfInBounds_toArray, List.set_cons_zero, List.set_cons_succ]
  refine anyC_take (i := 12) (v := undef) rfl (by kernel_rfl) (by kernel_rfl) (by kernel_rfl) (fun _ _ _ h => h) (trivial) (Or.inr ⟨by rfl, rfl⟩) ?_
  try simp only [List.getElem_toArray, List.getElem_cons_zero, List.getElem_cons_succ, Act.put, List.setIfInBounds_toArray, List.set_cons_zero, List.set_cons_succ]
  refine anyC_take (i := 9) (v := undef) rfl (by kernel_rfl) (by kernel_rfl) (by kernel_rfl) (fun _ _ _ h => h) (trivial) (Or.inr ⟨by rfl, rfl⟩) ?_
  try simp only [List.getElem_toArray, List.getElem_cons_zero, List.getElem_cons_succ, Act.put, List.setIfInBounds_toArray, List.set_cons_zero, List.set_cons_succ]
  refine anyC_take (i := 13) (v := undef) rfl (by kernel_rfl) (by kernel_rfl) (by kernel_rfl) (fun _ _ _ h => h) (trivial) (Or.inr ⟨by rfl, rfl⟩) ?_
  try simp only [List.getElem_toArray, List.getElem_cons_zero, List.getElem_cons_succ, Act.put, List.setIfInBounds_toArray, List.set_cons_zero, List.set_cons_succ]
  refine anyC_take (i := 14) (v := undef) rfl (by kernel_rfl) (by kernel_rfl) (by kernel_rfl) (fun _ _ _ h => h) (trivial) (Or.inr ⟨by rfl, rfl⟩) ?_
  try simp only [List.getElem_toArray, List.getElem_cons_zero, List.getElem_cons_succ, Act.put, List.setIfInBounds_toArray, List.set_cons_zero, List.set_cons_succ]
  refine anyC_take (i := 15) (v := undef) rfl (by kernel_rfl) (by kernel_rfl) (by kernel_rfl) (fun _ _ _ h => h) (trivial) (Or.inr ⟨by rfl, rfl⟩) ?_
  try simp only [List.getElem_toArray, List.getElem_cons_zero, List.getElem_cons_succ, Act.put, List.setIfInBounds_toArray, List.set_cons_zero, List.set_cons_succ]
  refine anyC_take (i := 16) (v := ?_) rfl (by kernel_rfl) (by kernel_rfl) (by kernel_rfl) (fun _ _ _ h => h) (trivial) (Or.inl ⟨by rfl, ?_⟩) ?_
  rotate_left
  · intro W hW
    go_simp
    try with_reducible rfl
  try simp only [List.getElem_toArray, List.getElem_cons_zero, List.getElem_cons_succ, Act.put, List.setIfInBounds_toArray, List.set_cons_zero, List.set_cons_succ]
  refine anyC_done (by kernel_rfl) ?_ _
  go_wp2_with fail
  go_ret
  exact ⟨rfl, Below.drew (Below.refl _ _)⟩
set_option maxRecDepth 100000 in
set_option maxHeartbeats 3200000 in
theorem iappend_any (B b : Nat) (v : Value) (l : List Int) (u : Int) (w : World) (h : IdxM w B b v l) (ha : asc l) (hl : l.length ≤ 1000000) (hu : u ≠ 0) :
    Calls Tryz.prog 37 #[.pointer (some ⟨b, 0, none⟩), .int .u32 u] w fun e w' => e = .returned (.bool (appB l u)) ∧ ∃ v', IdxM w' B b v' (if appB l u then l ++ [u] else l) ∧ (∀ n, n ≤ B → Below n w w') ∧ Kp1 w w' b v v' ∧ w.heap.size ≤ w'.heap.size := by
  have HFd := Lib.hid (fun W (h : IdxR W W.heap.size b l) => find_any b l u W h ha (by omega))
  have hB := h.base
  have hap : appB l u = decide (cntU l u = l.length) := by unfold appB; simp [hu]
  have hcl := cntU_le l u
  obtain ⟨k, hk⟩ : ∃ k, cntU l u = k := ⟨_, rfl⟩
  rw [hk] at HFd hcl hap
  obtain ⟨A, cap, rfl, -⟩ : ∃ A cap, v = .slice A l.length cap ∧ True := by
    rcases h.2.1.2 with ⟨rfl, e⟩ | ⟨g, off, cap, rfl, _⟩
    · exact ⟨none, 0, by rw [e], trivial⟩
    · exact ⟨_, cap, rfl, trivial⟩
  obtain ⟨m, hm⟩ : ∃ m, l.length = m := ⟨_, rfl⟩
  rw [hm] at h hap hcl hl
  have hub : (u == 0) = false := by simpa using hu
  have hmI : (m : Int) ≤ 1000000 := by omega
  have HI := Lib.hid (show IdxM w.drew B b (.slice A m cap) l ∧ (∀ n, n ≤ B → Below n w w.drew) ∧ Kp1 w w.drew b (.slice A m cap) (.slice A m cap) ∧ w.heap.size ≤ w.drew.heap.size from ⟨h, fun n _ => Below.drew (Below.refl _ _), Kp1.refl _ _ _, Nat.le_refl _⟩)
  rw [hap, hm]
  obtain ⟨t, ht⟩ : ∃ t, decide (k = m) = t := ⟨_, rfl⟩
  rw [ht]
  obtain ⟨Z, hZ⟩ : ∃ Z, (if t = true then l ++ [u] else l) = Z := ⟨_, rfl⟩
  rw [hZ]
  have HH := Lib.hid (And.intro hm (And.intro hB (And.intro ha (And.intro ht hZ))))
  clear h hk hap ha hm ht hZ
  go_enter Tryz.func37, Tryz.ntmps37
  go_upto_region 1 with fail
  refine region_anyC (fun W => Blk W b 70 #[.slice A m cap]) (by kernel_rfl) ?_
  refine anyC_take (i := 0) (v := ?_) rfl (by kernel_rfl) (by kernel_rfl) (by kernel_rfl) (fun _ _ _ h => h) (HI.out.1.1) (Or.inl ⟨by rfl, ?_⟩) ?_
  rotate_left
  · intro W hW
    go_simp
    try with_reducible rfl
  try simp only [List.getElem_toArray, List.getElem_cons_zero, List.getElem_cons_succ, Act.put, List.setIfInBounds_toArray, List.set_cons_zero, List.set_cons_succ]
  refine anyC_take (i := 1) (v := ?_) rfl (by kernel_rfl) (by kernel_rfl) (by kernel_rfl) (fun _ _ _ h => h) (HI.out.1.1) (Or.inl ⟨by rfl, ?_⟩) ?_
  rotate_left
  · intro W hW
    go_simp
    try with_reducible rfl
  try simp only [List.getElem_toArray, List.getElem_cons_zero, List.getElem_cons_succ, Act.put, List.setIfInBounds_toArray, List.set_cons_zero, List.set_cons_succ]
  refine anyC_take (i := 2) (v := ?_) rfl (by kernel_rfl) (by kernel_rfl) (by kernel_rfl) (fun _ _ _ h => h) (HI.out.1.1) (Or.inl ⟨by rfl, ?_⟩) ?_
  rotate_left
  · intro W hW
    go_simp
    try with_reducible rfl
  try simp only [List.getElem_toArray, List.getElem_cons_zero, List.getElem_cons_succ, Act.put, List.setIfInBounds_toArray, List.set_cons_zero, List.set_cons_succ]
  refine anyC_take (i := 3) (v := ?_) rfl (by kernel_rfl) (by kernel_rfl) (by kernel_rfl) (fun _ _ _ h => h) (HI.out.1.1) (Or.inl ⟨by rfl, ?_⟩) ?_
  rotate_left
  · intro W hW
    go_simp
    try with_reducible rfl
  try simp only [List.getElem_toArray, List.getElem_cons_zero, List.getElem_cons_succ, Act.put, List.setIfInBounds_toArray, List.set_cons_zero, List.set_cons_succ]
  refine anyC_take (i := 4) (v := ?_) rfl (by kernel_rfl) (by kernel_rfl) (by kernel_rfl) (fun _ _ _ h => h) (HI.out.1.1) (Or.inl ⟨by rfl, ?_⟩) ?_
  rotate_left
  · intro W hW
    go_simp
    try with_reducible rfl
  try simp only [List.getElem_toArray, List.getElem_cons_zero, List.getElem_cons_succ, Act.put, List.setIfInBounds_toArray, List.set_cons_zero, List.set_cons_succ]
  refine anyC_take (i := 5) (v := ?_) rfl (by kernel_rfl) (by kernel_rfl) (by kernel_rfl) (fun _ _ _ h => h) (HI.out.1.1) (Or.inl ⟨by rfl, ?_⟩) ?_
  rotate_left
  · intro W hW
    go_simp
    try with_reducible rfl
  try simp only [List.getElem_toArray, List.getElem_cons_zero, List.getElem_cons_succ, Act.put, List.setIfInBounds_toArray, List.set_cons_zero, List.set_cons_succ]
  refine anyC_take (i := 6) (v := ?_) rfl (by kernel_rfl) (by kernel_rfl) (by kernel_rfl) (fun _ _ _ h => h) (HI.out.1.1) (Or.inl ⟨by rfl, ?_⟩) ?_
  rotate_left
  · intro W hW
    go_simp
    try with_reducible rfl
  try simp only [List.getElem_toArray, List.getElem_cons_zero, List.getElem_cons_succ, Act.put, List.setIfInBounds_toArray, List.set_cons_zero, List.set_cons_succ]
  refine anyC_take (i := 7) (v := ?_) rfl (by kernel_rfl) (by kernel_rfl) (by kernel_rfl) (fun _ _ _ h => h) (HI.out.1.1) (Or.inl ⟨by rfl, ?_⟩) ?_
  rotate_left
  · intro W hW
    go_simp
    try with_reducible rfl
  try simp only [List.getElem_toArray, List.getElem_cons_zero, List.getElem_cons_succ, Act.put, List.setIfInBounds_toArray, List.set_cons_zero, List.set_cons_succ]
  refine anyC_take (i := 8) (v := ?_) rfl (by kernel_rfl) (by kernel_rfl) (by kernel_rfl) (fun _ _ _ h => h) (HI.out.1.1) (Or.inl ⟨by rfl, ?_⟩) ?_
  rotate_left
  · intro W hW
    go_simp
    try with_reducible rfl
  try simp only [List.getElem_toArray, List.getElem_cons_zero, List.getElem_cons_succ, Act.put, List.setIfInBounds_toArray, List.set_cons_zero, List.set_cons_succ]
  refine anyC_take (i := 10) (v := ?_) rfl (by kernel_rfl) (by kernel_rfl) (by kernel_rfl) (fun _ _ _ h => h) (HI.out.1.1) (Or.inl ⟨by rfl, ?_⟩) ?_
  rotate_left
  · intro W hW
    go_simp
    try with_reducible rfl
  try simp only [List.getElem_toArray, List.getElem_cons_zero, List.getElem_cons_succ, Act.put, List.setIfInBounds_toArray, List.set_cons_zero, List.set_cons_succ]
  refine anyC_take (i := 11) (v := ?_) rfl (by kernel_rfl) (by kernel_rfl) (by kernel_rfl) (fun _ _ _ h => h) (HI.out.1.1) (Or.inl ⟨by rfl, ?_⟩) ?_
  rotate_left
  · intro W hW
    go_simp
    try with_reducible rfl
  try simp only [List.getElem_toArray, List.getElem_cons_zero, List.getElem_cons_succ, Act.put, List.setIfInBounds_toArray, List.set_cons_zero, List.set_cons_succ]
  refine anyC_take (i := 12) (v := ?_) rfl (by kernel_rfl) (by kernel_rfl) (by kernel_rfl) (fun _ _ _ h => h) (HI.out.1.1) (Or.inl ⟨by rfl, ?_⟩) ?_
  rotate_left
  · intro W hW
    go_simp
    try with_reducible rfl
  try simp only [List.getElem_toArray, List.getElem_cons_zero, List.getElem_cons_succ, Act.put, List.setIfInBounds_toArray, List.set_cons_zero, List.set_cons_succ]
  refine anyC_take (i := 13) (v := ?_) rfl (by kernel_rfl) (by kernel_rfl) (by kernel_rfl) (fun _ _ _ h => h) (HI.out.1.1) (Or.inl ⟨by rfl, ?_⟩) ?_
  rotate_left
  · intro W hW
    have x : W.cell? ⟨b, 0, none⟩ = some (.slice A m cap) := hW.cell 0
    go_simp
    try with_reducible rfl
  try simp only [List.getElem_toArray, List.getElem_cons_zero, List.getElem_cons_succ, Act.put, List.setIfInBounds_toArray, List.set_cons_zero, List.set_cons_succ]
  refine anyC_take (i := 14) (v := ?_) rfl (by kernel_rfl) (by kernel_rfl) (by kernel_rfl) (fun _ _ _ h => h) (HI.out.1.1) (Or.inl ⟨by rfl, ?_⟩) ?_
  rotate_left
  · intro W hW
    go_simp
    try with_reducible rfl
  try simp only [List.getElem_toArray, List.getElem_cons_zero, List.getElem_cons_succ, Act.put, List.setIfInBounds_toArray, List.set_cons_zero, List.set_cons_succ]
  refine anyC_one (i := 9) (by kernel_rfl) (fun K hK => ⟨_, rfl, by kernel_rfl, ?_⟩)
  go_simp
  refine (HFd.out _ HI.out.1.read).mono ?_
  rintro e w1 ⟨rfl, hb1⟩
  have HB1 := Lib.hid hb1
  clear hb1
  refine hK _ _ (HI.out.1.1.below HB1.out HI.out.1.1.lt) ?_
  clear hK K
  try simp only [List.getElem_toArray, List.getElem_cons_zero, List.getElem_cons_succ, Act.put, List.setIfInBounds_toArray, List.set_cons_zero, List.set_cons_succ]
  refine anyC_take (i := 15) (v := ?_) rfl (by kernel_rfl) (by kernel_rfl) (by kernel_rfl) (fun _ _ _ h => h) ((HI.out.1.1.below HB1.out HI.out.1.1.lt)) (Or.inl ⟨by rfl, ?_⟩) ?_
  rotate_left
  · intro W hW
    go_simp
    try with_reducible rfl
  try simp only [List.getElem_toArray, List.getElem_cons_zero, List.getElem_cons_succ, Act.put, List.setIfInBounds_toArray, List.set_cons_zero, List.set_cons_succ]
  refine anyC_take (i := 16) (v := ?_) rfl (by kernel_rfl) (by kernel_rfl) (by kernel_rfl) (fun _ _ _ h => h) ((HI.out.1.1.below HB1.out HI.out.1.1.lt)) (Or.inl ⟨by rfl, ?_⟩) ?_
  rotate_left
  · intro W hW
    go_simp
    try with_reducible rfl
  try simp only [List.getElem_toArray, List.getElem_cons_zero, List.getElem_cons_succ, Act.put, List.setIfInBounds_toArray, List.set_cons_zero, List.set_cons_succ]
  refine anyC_done (by kernel_rfl) ?_ _
  have H1 := Lib.hid (show IdxM w1 B b (.slice A m cap) l ∧ (∀ n, n ≤ B → Below n w w1) ∧ Kp1 w w1 b (.slice A m cap) (.slice A m cap) ∧ w.heap.size ≤ w1.heap.size from ⟨HI.out.1.below HB1.out (Nat.le_refl _), fun n hn => (HI.out.2.1 n hn).trans (HB1.out.mono (Nat.le_trans hn HH.out.2.1)), HI.out.2.2.1.trans (Kp1.of_below HB1.out _ _) HI.out.2.2.2, Nat.le_trans HI.out.2.2.2 HB1.out.size⟩)
  by_cases hlt : k < m
  · have hltI : (k : Int) < m := by omega
    have hltd : decide ((k : Int) < m) = true := decide_eq_true hltI
    have hltN : decide (k < m) = true := decide_eq_true hlt
    have HT : Hid (t = false ∧ Z = l) := Lib.hid (by
      have e : t = false := HH.out.2.2.2.1.symm.trans (decide_eq_false (by omega))
      exact ⟨e, by rw [← HH.out.2.2.2.2, e]; rfl⟩)
    go_wp2_with fail
    go_ret
    exact ⟨by rw [HT.out.1]; rfl, _, by rw [HT.out.2]; exact H1.out⟩
  · obtain rfl : k = m := by omega
    have hltI : ¬ ((k : Int) < k) := by omega
    have hltd : decide ((k : Int) < k) = false := decide_eq_false hltI
    have hltN : decide (k < k) = false := decide_eq_false (by omega)
    have HT : Hid (t = true ∧ Z = l ++ [u]) := Lib.hid (by
      have e : t = true := HH.out.2.2.2.1.symm.trans (decide_eq_true rfl)
      exact ⟨e, by rw [← HH.out.2.2.2.2, e]; rfl⟩)
    obtain ⟨v2, g2, o2, n2, c2, w2, rfl, hrun, hfz, hsm, hidx, hb2, hkp⟩ := push_idx H1.out.1 u (by have := HH.out.1; omega)
    obtain ⟨u2, hu2⟩ := Option.isSome_iff_exists.1 hsm
    have c0 : w1.cell? ⟨b, 0, none⟩ = some (.slice A k cap) := H1.out.1.1.cell 0
    have HR := Lib.hid hrun
    have HX := Lib.hid (And.intro hidx (And.intro hb2 hkp))
    clear hrun hidx hb2 hkp hsm
    go_wp2_with (at_builtin; refine wpList_append_run _ rfl (.tmp 26) (.tmp 28) _ _ rfl _ _ rfl rfl _ _ HR.out ?_)
    go_ret
    exact ⟨by rw [HT.out.1]; rfl, _, by rw [HT.out.2]; exact HX.out.1, fun n hn => (H1.out.2.1 n hn).trans (HX.out.2.1 n hn), H1.out.2.2.1.trans HX.out.2.2 H1.out.2.2.2, Nat.le_trans H1.out.2.2.2 (HX.out.2.1 0 (Nat.zero_le _)).size⟩

theorem setCells_other (b : Nat) : ∀ (vs : List Value) (o : Nat) (w : World) (k : Nat), k ≠ b → (w.setCells b o vs).heap[k]? = w.heap[k]?
  | [], _, _, _, _ => rfl
  | v :: r, o, w, k, h => by rw [World.setCells, setCells_other b r _ _ k h]; exact Below.heap_setCell w ⟨b, o, none⟩ v k h

theorem eraseIdx_take_drop (l : List Int) (i : Nat) : l.eraseIdx i = l.take i ++ l.drop (i + 1) := List.eraseIdx_eq_take_drop_succ l i
/-- 'copy(x[i:], x[i+1:])' in a slice of one's own: the run, and the slice that is one shorter. -/
theorem shift_buf {B n cap g off i : Nat} {l : List Int} {W : World} (h : Go.Proofs.YtponmnabbieafaaGreatDoor.Buf W B 1 (.slice (some ⟨g, off, none⟩) n cap) n (l.map (Value.int .u32))) (hi : i < n) (q : Option Addr) (hq : i + 1 < n → q = some ⟨g, off + (i + 1), none⟩) (c1 c2 : Nat) :
    ∃ w', (Builtin.copy_ #[22, 22] 3 #[.slice (some ⟨g, off + i, none⟩) (n - i) c1, .slice q (n - (i + 1)) c2]).run Tryz.prog W = .ok (.int .i64 ((n - (i + 1) : Nat) : Int)) w' ∧
      Go.Proofs.YtponmnabbieafaaGreatDoor.Buf w' B 1 (.slice (some ⟨g, off, none⟩) (n - 1) cap) (n - 1) ((l.eraseIdx i).map (Value.int .u32)) ∧ w'.heap.size = W.heap.size ∧ (∀ m, m ≤ g → Below m W w') ∧ ∀ k, k ≠ g → w'.heap[k]? = W.heap[k]? := by
  obtain ⟨hlen, h2⟩ := h
  rw [List.length_map, Nat.mul_one] at hlen
  rcases h2 with ⟨e, _⟩ | ⟨g', off', cap', e, hg, hlt, hnc, hc, hf⟩
  · cases e
  injection e with e1 e2 e3
  injection e1 with e1
  injection e1 with e1 e4
  subst e1 e3 e4
  obtain ⟨i0, hi0, hz0, hz1, hz2⟩ := info_parts infoU32
  have hsz : (Tryz.prog.info? 35).map (·.size) = some 1 := by rw [hi0]; simp [hz1]
  have hlen2 : ((l.drop (i + 1)).map (Value.int .u32)).length = n - (i + 1) := by rw [List.length_map, List.length_drop, hlen]
  have herl : ((l.eraseIdx i).map (Value.int .u32)).length = (n - 1) * 1 := by rw [List.length_map, List.length_eraseIdx, if_pos (by omega)]; omega
  by_cases h0 : i + 1 < n
  · have hq' := hq h0
    subst hq'
    have hr := run_copy_cells (P := Tryz.prog) W 22 22 3 35 g (off + i) (n - i) c1 ⟨g, off + (i + 1), none⟩ (n - (i + 1)) c2 ((l.drop (i + 1)).map (Value.int .u32)) Tryz.underlying22 hsz
      (by rw [hlen2]; exact (Nat.min_eq_left (by omega)).symm)
      (fun j u hj => by
        rw [Go.WideShapes.add_plain, Nat.add_assoc]
        refine hc (i + 1 + j) u ?_
        rw [← hj, List.getElem?_map, List.getElem?_map, List.getElem?_drop])
      (fun j hj => by rw [hlen2] at hj; rw [Nat.add_assoc]; exact (hf (i + j) (by omega)).1)
      (fun j hj => by rw [hlen2] at hj; rw [Nat.add_assoc]; exact (hf (i + j) (by omega)).2)
      (fun u hu => by obtain ⟨x, _, rfl⟩ := List.mem_map.1 hu; rfl)
    rw [hlen2] at hr
    have hin := World.cell?_setCells_in g ((l.drop (i + 1)).map (Value.int .u32)) (off + i) W (fun j hj => by rw [hlen2] at hj; rw [Nat.add_assoc]; exact (hf (i + j) (by omega)).1)
    have hout := World.cell?_setCells_out g ((l.drop (i + 1)).map (Value.int .u32)) (off + i) W
    have hbel : ∀ m, m ≤ g → Below m W (W.setCells g (off + i) ((l.drop (i + 1)).map (Value.int .u32))) := fun m hm => Go.Lib.below_setCells g hm _ _ (Below.refl _ _)
    have hcell : ∀ j, (W.setCells g (off + i) ((l.drop (i + 1)).map (Value.int .u32))).cell? ⟨g, off + j, none⟩ = if h : i ≤ j ∧ j - i < ((l.drop (i + 1)).map (Value.int .u32)).length then some (((l.drop (i + 1)).map (Value.int .u32))[j - i]'h.2) else W.cell? ⟨g, off + j, none⟩ := fun j => by
      split
      · rename_i hj
        have := hin (j - i) hj.2
        rw [Nat.add_assoc, show i + (j - i) = j by omega] at this
        exact this
      · rename_i hj
        refine hout ⟨g, off + j, none⟩ (fun _ _ => ?_)
        show off + j < off + i ∨ off + i + _ ≤ off + j
        omega
    refine ⟨_, hr, ⟨herl, .inr ⟨g, off, cap, rfl, hg, ?_, by omega, fun j u hj => ?_, fun j hj => ?_⟩⟩, ?_, hbel, fun k hk => ?_⟩
    · exact Nat.lt_of_lt_of_le hlt (hbel 0 (Nat.zero_le _)).size
    · rw [hcell j]
      rw [List.getElem?_map, eraseIdx_take_drop] at hj
      split
      · rename_i hj2
        rw [List.getElem?_append_right (by rw [List.length_take]; omega), List.length_take, Nat.min_eq_left (by omega)] at hj
        rw [List.getElem_map]
        rw [List.length_map] at hj2
        rw [List.getElem?_eq_getElem hj2.2] at hj
        exact hj
      · rename_i hj2
        rw [hlen2] at hj2
        have hjl : j < n - 1 := by
          have hh : j < (l.take i ++ l.drop (i + 1)).length := by
            rcases Nat.lt_or_ge j (l.take i ++ l.drop (i + 1)).length with h | h
            · exact h
            · rw [List.getElem?_eq_none h] at hj; cases hj
          rw [List.length_append, List.length_take, List.length_drop, Nat.min_eq_left (by omega)] at hh
          omega
        rw [List.getElem?_append_left (by rw [List.length_take]; omega), List.getElem?_take_of_lt (by omega)] at hj
        exact hc j u (by rw [List.getElem?_map]; exact hj)
    · rw [World.frozen?_setCells]
      refine ⟨?_, (hf j hj).2⟩
      rw [hcell j]
      split
      · rfl
      · exact (hf j hj).1
    · exact setCells_size _ _ _ _
    · exact setCells_other _ _ _ _ _ hk
  · have hn : n - (i + 1) = 0 := by omega
    refine ⟨W, ?_, ⟨herl, .inr ⟨g, off, cap, rfl, hg, hlt, by omega, fun j u hj => ?_, hf⟩⟩, rfl, fun _ _ => Below.refl _ _, fun _ _ => rfl⟩
    · rw [hn]
      exact run_copy_none (P := Tryz.prog) W 22 22 3 35 _ _ _ _ 0 _ Tryz.underlying22 hsz (by simp)
    · rw [List.getElem?_map, eraseIdx_take_drop, List.drop_eq_nil_of_le (by omega), List.append_nil] at hj
      refine hc j u ?_
      rw [List.getElem?_map]
      have hjl : j < i := by
        rcases Nat.lt_or_ge j i with h | h
        · exact h
        · rw [List.getElem?_eq_none (by rw [List.length_take]; omega)] at hj; cases hj
      rw [List.getElem?_take_of_lt hjl] at hj
      exact hj

set_option maxRecDepth 100000 in
set_option maxHeartbeats 3200000 in
theorem iremove_any (B b : Nat) (v : Value) (l : List Int) (u : Int) (w : World) (h : IdxM w B b v l) (ha : asc l) (hl : l.length ≤ 1000000) :
    Calls Tryz.prog 38 #[.pointer (some ⟨b, 0, none⟩), .int .u32 u] w fun e w' => e = .returned (.int .i64 (posU l u : Nat)) ∧ ∃ v', IdxM w' B b v' (cutU l u) ∧ (∀ n, n ≤ B → Below n w w') ∧ Kp1 w w' b v v' ∧ w.heap.size ≤ w'.heap.size := by
  have HP := Lib.hid (pos_any b l u w h.read ha (by omega))
  have hB := h.base
  have hcu : cutU l u = if 0 < posU l u then l.eraseIdx (posU l u - 1) else l := rfl
  rw [hcu]
  have hpin := pos_in (l := l) (u := u)
  obtain ⟨p, hp⟩ : ∃ p, posU l u = p := ⟨_, rfl⟩
  rw [hp] at HP hpin ⊢
  have HH := Lib.hid (And.intro h (And.intro hB hl))
  clear h hcu hp ha
  by_cases hp0 : 0 < p
  · obtain ⟨-, hpl, -⟩ := hpin hp0
    rw [if_pos hp0]
    obtain ⟨i, rfl⟩ : ∃ i, p = i + 1 := ⟨p - 1, by omega⟩
    rw [Nat.add_sub_cancel] at *
    obtain ⟨g, off, cap, rfl, hg, hgl, hnc⟩ : ∃ g off cap, v = .slice (some ⟨g, off, none⟩) l.length cap ∧ B ≤ g ∧ g < w.heap.size ∧ l.length ≤ cap := by
      rcases HH.out.1.2.1.2 with ⟨rfl, e⟩ | ⟨g, off, cap, rfl, k1, k2, k3, _⟩
      · omega
      · exact ⟨g, off, cap, rfl, k1, k2, k3⟩
    obtain ⟨n, hn⟩ : ∃ n, l.length = n := ⟨_, rfl⟩
    have HN := Lib.hid (And.intro hn (And.intro hg hgl))
    rw [hn] at hpl hnc HH hl
    clear hpin hn hg hgl
    have hpI : (0 : Int) < (i : Int) + 1 := by omega
    have hpd : decide ((0 : Int) < ((i + 1 : Nat) : Int)) = true := decide_eq_true (by omega)
    have hpd2 : decide ((0 : Int) < (i : Int) + 1) = true := decide_eq_true (by omega)
    have hw1 : IntKind.i64.wrap ((i : Int) + 1 - 1) = i := by simp [IntKind.wrap, IntKind.bits, IntKind.signed]; omega
    have hw2 : IntKind.i64.wrap (((i + 1 : Nat) : Int) - 1) = i := by simp [IntKind.wrap, IntKind.bits, IntKind.signed]; omega
    have hw3 : IntKind.i64.wrap ((i : Int) + ((n - (i + 1) : Nat) : Int)) = ((n - 1 : Nat) : Int) := by simp [IntKind.wrap, IntKind.bits, IntKind.signed]; omega
    have hne1 : ¬ (cap = i) := by omega
    have hw0 : IntKind.i64.wrap (i : Int) = i := by simp [IntKind.wrap, IntKind.bits, IntKind.signed]; omega
    have hin0 : (0 : Int) ≤ i := by omega
    have hin1 : (i : Int) ≤ n := by omega
    have hin2 : (0 : Int) ≤ (i : Int) + 1 := by omega
    have hin3 : (i : Int) + 1 ≤ n := by omega
    obtain ⟨q, hq⟩ : ∃ q : Option Addr, (if cap = i + 1 then some (⟨g, off, none⟩ : Addr) else some ⟨g, off + (i + 1), none⟩) = q := ⟨_, rfl⟩
    have hqn : i + 1 < n → q = some ⟨g, off + (i + 1), none⟩ := fun h => by rw [← hq, if_neg (by omega)]
    go_enter Tryz.func38, Tryz.ntmps38
    go_wp2_with fail
    refine HP.out.mono ?_
    rintro e w1 ⟨rfl, hb1⟩
    have hI1 := HH.out.1.below hb1 (Nat.le_refl _)
    have HB1 := Lib.hid hb1
    have HI1 := Lib.hid (show IdxM w1.drew B b (.slice (some ⟨g, off, none⟩) n cap) l from hI1)
    clear hb1 hI1
    go_upto_region 3 with fail
    refine region_anyC (fun W => Blk W b 70 #[.slice (some ⟨g, off, none⟩) n cap]) (by kernel_rfl) ?_
    refine anyC_take (i := 0) (v := ?_) rfl (by kernel_rfl) (by kernel_rfl) (by kernel_rfl) (fun _ _ _ h => h) (HI1.out.1) (Or.inl ⟨by rfl, ?_⟩) ?_
    rotate_left
    · intro W hW
      go_simp
      try with_reducible rfl
    try simp only [List.getElem_toArray, List.getElem_cons_zero, List.getElem_cons_succ, Act.put, List.setIfInBounds_toArray, List.set_cons_zero, List.set_cons_succ]
    refine anyC_take (i := 1) (v := ?_) rfl (by kernel_rfl) (by kernel_rfl) (by kernel_rfl) (fun _ _ _ h => h) (HI1.out.1) (Or.inl ⟨by rfl, ?_⟩) ?_
    rotate_left
    · intro W hW
      go_simp
      try with_reducible rfl
    try simp only [List.getElem_toArray, List.getElem_cons_zero, List.getElem_cons_succ, Act.put, List.setIfInBounds_toArray, List.set_cons_zero, List.set_cons_succ]
    refine anyC_take (i := 2) (v := ?_) rfl (by kernel_rfl) (by kernel_rfl) (by kernel_rfl) (fun _ _ _ h => h) (HI1.out.1) (Or.inl ⟨by rfl, ?_⟩) ?_
    rotate_left
    · intro W hW
      go_simp
      try with_reducible rfl
    try simp only [List.getElem_toArray, List.getElem_cons_zero, List.getElem_cons_succ, Act.put, List.setIfInBounds_toArray, List.set_cons_zero, List.set_cons_succ]
    refine anyC_take (i := 3) (v := ?_) rfl (by kernel_rfl) (by kernel_rfl) (by kernel_rfl) (fun _ _ _ h => h) (HI1.out.1) (Or.inl ⟨by rfl, ?_⟩) ?_
    rotate_left
    · intro W hW
      go_simp
      try with_reducible rfl
    try simp only [List.getElem_toArray, List.getElem_cons_zero, List.getElem_cons_succ, Act.put, List.setIfInBounds_toArray, List.set_cons_zero, List.set_cons_succ]
    refine anyC_take (i := 4) (v := ?_) rfl (by kernel_rfl) (by kernel_rfl) (by kernel_rfl) (fun _ _ _ h => h) (HI1.out.1) (Or.inl ⟨by rfl, ?_⟩) ?_
    rotate_left
    · intro W hW
      go_simp
      try with_reducible rfl
    try simp only [List.getElem_toArray, List.getElem_cons_zero, List.getElem_cons_succ, Act.put, List.setIfInBounds_toArray, List.set_cons_zero, List.set_cons_succ]
    refine anyC_take (i := 6) (v := ?_) rfl (by kernel_rfl) (by kernel_rfl) (by kernel_rfl) (fun _ _ _ h => h) (HI1.out.1) (Or.inl ⟨by rfl, ?_⟩) ?_
    rotate_left
    · intro W hW
      go_simp
      try with_reducible rfl
    try simp only [List.getElem_toArray, List.getElem_cons_zero, List.getElem_cons_succ, Act.put, List.setIfInBounds_toArray, List.set_cons_zero, List.set_cons_succ]
    refine anyC_take (i := 7) (v := ?_) rfl (by kernel_rfl) (by kernel_rfl) (by kernel_rfl) (fun _ _ _ h => h) (HI1.out.1) (Or.inl ⟨by rfl, ?_⟩) ?_
    rotate_left
    · intro W hW
      go_simp
      try with_reducible rfl
    try simp only [List.getElem_toArray, List.getElem_cons_zero, List.getElem_cons_succ, Act.put, List.setIfInBounds_toArray, List.set_cons_zero, List.set_cons_succ]
    refine anyC_take (i := 9) (v := ?_) rfl (by kernel_rfl) (by kernel_rfl) (by kernel_rfl) (fun _ _ _ h => h) (HI1.out.1) (Or.inl ⟨by rfl, ?_⟩) ?_
    rotate_left
    · intro W hW
      go_simp
      try with_reducible rfl
    try simp only [List.getElem_toArray, List.getElem_cons_zero, List.getElem_cons_succ, Act.put, List.setIfInBounds_toArray, List.set_cons_zero, List.set_cons_succ]
    refine anyC_take (i := 10) (v := ?_) rfl (by kernel_rfl) (by kernel_rfl) (by kernel_rfl) (fun _ _ _ h => h) (HI1.out.1) (Or.inl ⟨by rfl, ?_⟩) ?_
    rotate_left
    · intro W hW
      go_simp
      try with_reducible rfl
    try simp only [List.getElem_toArray, List.getElem_cons_zero, List.getElem_cons_succ, Act.put, List.setIfInBounds_toArray, List.set_cons_zero, List.set_cons_succ]
    refine anyC_take (i := 11) (v := ?_) rfl (by kernel_rfl) (by kernel_rfl) (by kernel_rfl) (fun _ _ _ h => h) (HI1.out.1) (Or.inl ⟨by rfl, ?_⟩) ?_
    rotate_left
    · intro W hW
      go_simp
      try with_reducible rfl
    try simp only [List.getElem_toArray, List.getElem_cons_zero, List.getElem_cons_succ, Act.put, List.setIfInBounds_toArray, List.set_cons_zero, List.set_cons_succ]
    refine anyC_take (i := 13) (v := ?_) rfl (by kernel_rfl) (by kernel_rfl) (by kernel_rfl) (fun _ _ _ h => h) (HI1.out.1) (Or.inl ⟨by rfl, ?_⟩) ?_
    rotate_left
    · intro W hW
      go_simp
      try with_reducible rfl
    try simp only [List.getElem_toArray, List.getElem_cons_zero, List.getElem_cons_succ, Act.put, List.setIfInBounds_toArray, List.set_cons_zero, List.set_cons_succ]
    refine anyC_take (i := 5) (v := ?_) rfl (by kernel_rfl) (by kernel_rfl) (by kernel_rfl) (fun _ _ _ h => h) (HI1.out.1) (Or.inl ⟨by rfl, ?_⟩) ?_
    rotate_left
    · intro W hW
      have x : W.cell? ⟨b, 0, none⟩ = some (.slice (some ⟨g, off, none⟩) n cap) := hW.cell 0
      go_simp
      try with_reducible rfl
    try simp only [List.getElem_toArray, List.getElem_cons_zero, List.getElem_cons_succ, Act.put, List.setIfInBounds_toArray, List.set_cons_zero, List.set_cons_succ]
    refine anyC_take (i := 12) (v := ?_) rfl (by kernel_rfl) (by kernel_rfl) (by kernel_rfl) (fun _ _ _ h => h) (HI1.out.1) (Or.inl ⟨by rfl, ?_⟩) ?_
    rotate_left
    · intro W hW
      have x : W.cell? ⟨b, 0, none⟩ = some (.slice (some ⟨g, off, none⟩) n cap) := hW.cell 0
      go_simp
      try with_reducible rfl
    try simp only [List.getElem_toArray, List.getElem_cons_zero, List.getElem_cons_succ, Act.put, List.setIfInBounds_toArray, List.set_cons_zero, List.set_cons_succ]
    refine anyC_take (i := 8) (v := ?_) rfl (by kernel_rfl) (by kernel_rfl) (by kernel_rfl) (fun _ _ _ h => h) (HI1.out.1) (Or.inl ⟨by rfl, ?_⟩) ?_
    rotate_left
    · intro W hW
      go_simp
      try with_reducible rfl
    try simp only [List.getElem_toArray, List.getElem_cons_zero, List.getElem_cons_succ, Act.put, List.setIfInBounds_toArray, List.set_cons_zero, List.set_cons_succ]
    refine anyC_take (i := 14) (v := ?_) rfl (by kernel_rfl) (by kernel_rfl) (by kernel_rfl) (fun _ _ _ h => h) (HI1.out.1) (Or.inl ⟨by rfl, ?_⟩) ?_
    rotate_left
    · intro W hW
      go_simp
      try with_reducible rfl
    try simp only [List.getElem_toArray, List.getElem_cons_zero, List.getElem_cons_succ, Act.put, List.setIfInBounds_toArray, List.set_cons_zero, List.set_cons_succ]
    have hbg : Go.Proofs.YtponmnabbieafaaGreatDoor.Buf w1.drew B 1 (.slice (some ⟨g, off, none⟩) n cap) n (l.map (Value.int .u32)) := by have h := HI1.out.2.1; rw [HN.out.1] at h; exact h
    obtain ⟨w2, hr, hbuf2, hsz2, hbel2, hoth2⟩ := shift_buf hbg (show i < n by omega) q hqn (cap - i) (cap - (i + 1))
    have hgb : b ≠ g := fun e => HI1.out.2.2.1 (by rw [e]; rfl)
    have hk2 : Blk w2 b 70 #[.slice (some ⟨g, off, none⟩) n cap] := (hoth2 b hgb).trans HI1.out.1
    have HR := Lib.hid hr
    have H2 := Lib.hid (And.intro hbuf2 (And.intro hsz2 (And.intro hbel2 (And.intro hoth2 (And.intro hgb hk2)))))
    clear hbg hr hbuf2 hsz2 hbel2 hoth2 hgb hk2
    refine anyC_one (i := 15) (by kernel_rfl) (fun K hK => ⟨_, rfl, by kernel_rfl, ?_⟩)
    refine Go.Lib.wp_copy_run _ (.tmp 20) (.tmp 26) _ _ rfl _ _ rfl rfl HR.out ?_
    refine hK _ _ (H2.out.2.2.2.2.2) ?_
    clear hK K
    try simp only [List.getElem_toArray, List.getElem_cons_zero, List.getElem_cons_succ, Act.put, List.setIfInBounds_toArray, List.set_cons_zero, List.set_cons_succ]
    refine anyC_take (i := 16) (v := ?_) rfl (by kernel_rfl) (by kernel_rfl) (by kernel_rfl) (fun _ _ _ h => h) (H2.out.2.2.2.2.2) (Or.inl ⟨by rfl, ?_⟩) ?_
    rotate_left
    · intro W hW
      go_simp
      try with_reducible rfl
    try simp only [List.getElem_toArray, List.getElem_cons_zero, List.getElem_cons_succ, Act.put, List.setIfInBounds_toArray, List.set_cons_zero, List.set_cons_succ]
    refine anyC_take (i := 17) (v := ?_) rfl (by kernel_rfl) (by kernel_rfl) (by kernel_rfl) (fun _ _ _ h => h) (H2.out.2.2.2.2.2) (Or.inl ⟨by rfl, ?_⟩) ?_
    rotate_left
    · intro W hW
      go_simp
      try with_reducible rfl
    try simp only [List.getElem_toArray, List.getElem_cons_zero, List.getElem_cons_succ, Act.put, List.setIfInBounds_toArray, List.set_cons_zero, List.set_cons_succ]
    refine anyC_done (by kernel_rfl) ?_ _
    have c0 : w2.cell? ⟨b, 0, none⟩ = some (.slice (some ⟨g, off, none⟩) n cap) := H2.out.2.2.2.2.2.cell 0
    have hfz : w2.frozen? ⟨b, 0, none⟩ = false := H2.out.2.2.2.2.2.frz 0
    have hs0 : (0 : Int) ≤ ((n - 1 : Nat) : Int) := by omega
    have hs1 : ((n - 1 : Nat) : Int) ≤ cap := by omega
    have hs2 : n - 1 ≤ cap := by omega
    go_wp2_with fail
    go_ret
    have hne : (Value.slice (some ⟨g, off, none⟩) (n - 1) cap).ownBlock ≠ some b := fun e => by
      have e' : g = b := by simpa [Value.ownBlock] using e
      exact H2.out.2.2.2.2.1 e'.symm
    have hlen : (l.eraseIdx i).length = n - 1 := by rw [List.length_eraseIdx, HN.out.1, if_pos (by omega)]
    have hd : Below w1.heap.size w1 w1.drew := Below.drew (Below.refl _ _)
    refine ⟨by first | rfl | (congr 2), _, ⟨H2.out.2.2.2.2.2.put 0 _, ?_, hne, HH.out.1.2.2.2⟩, fun k hk => ?_, ?_, ?_⟩
    · rw [hlen]
      exact H2.out.1.far (p := ⟨b, 0, none⟩) (by exact hne) _
    · refine Below.setCell (p := ⟨b, 0, none⟩) ?_ (by show k ≤ b; have := HH.out.1.2.2.2; omega) _
      exact ((HB1.out.mono (Nat.le_trans hk HH.out.2.1)).trans (hd.mono (Nat.le_trans (Nat.le_trans hk HH.out.2.1) HB1.out.size))).trans (H2.out.2.2.1 k (Nat.le_trans hk HN.out.2.1))
    · intro k hk hkb hko
      have hkg : k ≠ g := fun e => hko (by rw [e]; rfl)
      refine ⟨?_, hko⟩
      rw [Below.heap_setCell w2 ⟨b, 0, none⟩ _ k hkb, H2.out.2.2.2.1 k hkg]
      exact HB1.out.block k hk
    · have h1 := HB1.out.size
      have h2 := H2.out.2.1
      have h3 : (w2.setCell ⟨b, 0, none⟩ (Value.slice (some ⟨g, off, none⟩) (n - 1) cap)).heap.size = w2.heap.size := by simp [World.setCell]
      have h4 : w1.drew.heap.size = w1.heap.size := rfl
      omega
  · rw [if_neg hp0]
    obtain rfl : p = 0 := by omega
    go_enter Tryz.func38, Tryz.ntmps38
    go_wp2_with fail
    refine HP.out.mono ?_
    rintro e w1 ⟨rfl, hb1⟩
    have HB1 := Lib.hid hb1
    clear hb1
    go_wp2_with fail
    go_ret
    exact ⟨rfl, v, HH.out.1.below HB1.out (Nat.le_refl _), fun m hm => HB1.out.mono (Nat.le_trans hm HH.out.2.1), Kp1.of_below HB1.out _ _, HB1.out.size⟩
end Go.Proofs.YtponmnabbieafaaGreatDoor
