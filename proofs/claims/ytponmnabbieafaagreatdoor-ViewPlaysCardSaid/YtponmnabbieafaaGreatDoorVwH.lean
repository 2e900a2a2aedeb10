/- What a view does with one event: the handlers, and the responses that they make. -/
import Derived.Test.YtponmnabbieafaaGreatDoorVwM
import Derived.Laws.ResultCell
import Derived.Laws.EntriesVeiled
import Derived.Lib.SliceRun
set_option linter.unusedVariables false
set_option linter.unusedSimpArgs false
namespace Go.Proofs.YtponmnabbieafaaGreatDoor
open Go Go.RowKit Go.Shelf Go.Lib Go.Sort

theorem Blk.ten {w : World} {g : Nat} {t : TypeId} {a0 a1 a2 a3 a4 a5 a6 a7 a8 a9 : Value} (h : Blk w g t #[a0, a1, a2, a3, a4, a5, a6, a7, a8, a9]) :
    (w.cell? ⟨g, 0, none⟩ = some a0 ∧ w.cell? ⟨g, 1, none⟩ = some a1 ∧ w.cell? ⟨g, 2, none⟩ = some a2 ∧ w.cell? ⟨g, 3, none⟩ = some a3 ∧ w.cell? ⟨g, 4, none⟩ = some a4 ∧ w.cell? ⟨g, 5, none⟩ = some a5 ∧ w.cell? ⟨g, 6, none⟩ = some a6 ∧ w.cell? ⟨g, 7, none⟩ = some a7 ∧ w.cell? ⟨g, 8, none⟩ = some a8 ∧ w.cell? ⟨g, 9, none⟩ = some a9) ∧ (w.frozen? ⟨g, 0, none⟩ = false ∧ w.frozen? ⟨g, 1, none⟩ = false ∧ w.frozen? ⟨g, 2, none⟩ = false ∧ w.frozen? ⟨g, 3, none⟩ = false ∧ w.frozen? ⟨g, 4, none⟩ = false ∧ w.frozen? ⟨g, 5, none⟩ = false ∧ w.frozen? ⟨g, 6, none⟩ = false ∧ w.frozen? ⟨g, 7, none⟩ = false ∧ w.frozen? ⟨g, 8, none⟩ = false ∧ w.frozen? ⟨g, 9, none⟩ = false) := by
  refine ⟨⟨?_, ?_, ?_, ?_, ?_, ?_, ?_, ?_, ?_, ?_⟩, ⟨h.frz 0, h.frz 1, h.frz 2, h.frz 3, h.frz 4, h.frz 5, h.frz 6, h.frz 7, h.frz 8, h.frz 9⟩⟩
  all_goals (rw [h.cell]; rfl)
theorem load_ten {w : World} {g : Nat} {a0 a1 a2 a3 a4 a5 a6 a7 a8 a9 : Value} (h : Blk w g 49 #[a0, a1, a2, a3, a4, a5, a6, a7, a8, a9]) :
    (loadVar 49 ⟨g, 0, none⟩).run Tryz.prog w = .ok (.agg #[a0, a1, a2, a3, a4, a5, a6, a7, a8, a9]) w := by
  obtain ⟨⟨c0, c1, c2, c3, c4, c5, c6, c7, c8, c9⟩, -⟩ := Blk.ten h
  simp [go_sem, c0, c1, c2, c3, c4, c5, c6, c7, c8, c9]
theorem results_ten2 {fn : Func} {p u : Tmp} (hr : fn.results = #[.cell p 49, .tmp u]) {tmps : Array Value} {w : World} {g : Nat} {b a0 a1 a2 a3 a4 a5 a6 a7 a8 a9 : Value} (hp : tmps.getD p undef = .pointer (some ⟨g, 0, none⟩)) (hu : tmps.getD u undef = b)
    (h : Blk w g 49 #[a0, a1, a2, a3, a4, a5, a6, a7, a8, a9]) :
    (results fn tmps).run Tryz.prog w = .ok (.tuple #[.agg #[a0, a1, a2, a3, a4, a5, a6, a7, a8, a9], b]) w := by
  rw [results_cell_tmp hr, hp, hu, show (asAddr (.pointer (some ⟨g, 0, none⟩))).run Tryz.prog w = .ok ⟨g, 0, none⟩ w from rfl]
  simp only [Result.andThen]
  rw [load_ten h]
theorem results_ten1 {fn : Func} {p : Tmp} (hr : fn.results = #[.cell p 49]) {tmps : Array Value} {w : World} {g : Nat} {a0 a1 a2 a3 a4 a5 a6 a7 a8 a9 : Value} (hp : tmps.getD p undef = .pointer (some ⟨g, 0, none⟩))
    (h : Blk w g 49 #[a0, a1, a2, a3, a4, a5, a6, a7, a8, a9]) :
    (results fn tmps).run Tryz.prog w = .ok (.agg #[a0, a1, a2, a3, a4, a5, a6, a7, a8, a9]) w := by
  have e : (results fn tmps).run Tryz.prog w = ((asAddr (tmps.getD p undef)).run Tryz.prog w).andThen fun a w₁ => (loadVar 49 a).run Tryz.prog w₁ := by
    simp only [results, hr]
    simp [Sem.run_bind, Result.andThen]
  rw [e, hp, show (asAddr (.pointer (some ⟨g, 0, none⟩))).run Tryz.prog w = .ok ⟨g, 0, none⟩ w from rfl]
  simp only [Result.andThen]
  rw [load_ten h]

set_option maxRecDepth 100000 in
set_option maxHeartbeats 800000 in
theorem count_any (k n : Int) (w : World) (hn : 0 ≤ n) (hn2 : n < 4294967296) :
    Calls Tryz.prog 25 #[.int .i64 k, .int .i64 n] w fun e w' => e = .returned (.agg #[.int .i64 k, .int .u32 n, .string ⟨#[]⟩, .int .i64 0, .string ⟨#[]⟩, .int .i64 0, .int .u8 0, .int .u32 0, .int .u32 0, .slice none 0 0]) ∧ Below w.heap.size w w' := by
  have hw : IntKind.u32.wrap n = n := by
    show n % 4294967296 = n
    omega
  clear hn hn2
  go_enter Tryz.func25, Tryz.ntmps25
  go_wp2_with fail
  refine bodyPost_ret (v := .agg #[.int .i64 k, .int .u32 n, .string ⟨#[]⟩, .int .i64 0, .string ⟨#[]⟩, .int .i64 0, .int .u8 0, .int .u32 0, .int .u32 0, .slice none 0 0]) (results_ten1 (by rfl) (by rfl) (Blk.made _ _ _)) rfl ⟨rfl, (Below.refl _ _).alloc (Nat.le_refl _) _⟩

set_option maxRecDepth 100000 in
theorem clone_nil (w : World) : Calls Tryz.prog 45 #[.slice none 0 0] w fun e w' => e = .returned (.slice none 0 0) ∧ w = w' := by
  have en := Lib.run_eql_slice_nil (P := Tryz.prog)
  go_enter Tryz.func45, Tryz.ntmps45
  go_wp2_with fail
  go_ret
  exact ⟨rfl, rfl⟩
def fnV (f : FuncId) : Value := .func (.func f) #[] #[]
def prtC : Array Value := #[.int .i64 1, fnV 52, fnV 54, .int .i64 2, fnV 55, fnV 57, .int .i64 4, fnV 58, fnV 59, .int .i64 16, fnV 60, fnV 62]
set_option maxRecDepth 100000 in
set_option maxHeartbeats 800000 in
theorem parts_any (w : World) : Calls Tryz.prog 46 #[] w fun e w' => e = .returned (.slice (some ⟨w.heap.size, 0, none⟩) 4 4) ∧ Blk w' w.heap.size 82 prtC ∧ Below w.heap.size w w' := by
  unfold prtC fnV
  go_enter Tryz.func46, Tryz.ntmps46
  go_wp2_with fail
  go_ret
  exact ⟨rfl, Blk.made _ _ _, (Below.refl _ _).alloc (Nat.le_refl _) _⟩
set_option maxRecDepth 100000 in
set_option maxHeartbeats 800000 in
theorem copyf_any (B g : Nat) (fl : Int) (cs : Array Value) (u : Value) (w : World) (hg : Blk w g 49 cs) (hu : cs[6]? = some u) (hB : B ≤ g) (hBw : B ≤ w.heap.size) :
    Calls Tryz.prog 54 #[.pointer (some ⟨g, 0, none⟩), .agg #[.int .i64 0, .int .u32 0, .string ⟨#[]⟩, .int .i64 0, .string ⟨#[]⟩, .int .i64 0, .int .u8 fl, .int .u32 0, .int .u32 0, .slice none 0 0]] w fun e w' => e = .returned (.tuple #[]) ∧ Blk w' g 49 (cs.setIfInBounds 6 (.int .u8 fl)) ∧ Below B w w' ∧ ∀ k, k < w.heap.size → k ≠ g → w'.heap[k]? = w.heap[k]? := by
  have hlt := hg.lt
  have hne : ¬ (w.heap.size = g) := by omega
  have hne2 : ¬ (g = w.heap.size) := by omega
  have c6 : w.cell? ⟨g, 6, none⟩ = some u := by rw [hg.cell]; exact hu
  have f6 : w.frozen? ⟨g, 6, none⟩ = false := hg.frz 6
  have HK := Lib.hid hg
  clear hg hu
  go_enter Tryz.func54, Tryz.ntmps54
  go_wp2_with fail
  go_end0
  have hs : (w.setCell ⟨g, 6, none⟩ (.int .u8 fl)).heap.size = w.heap.size := by simp [World.setCell]
  refine ⟨rfl, (HK.out.put 6 _).past _, ((Below.refl B w).setCell (p := ⟨g, 6, none⟩) hB _).alloc (by rw [hs]; exact hBw) _, fun k hk hkg => ?_⟩
  rw [Below.heap_alloc _ _ k (by rw [hs]; exact hk), Below.heap_setCell w ⟨g, 6, none⟩ _ k hkg]

theorem bits18 : bits BinOp.and IntKind.i64 1 8 = 0 := by decide
theorem bits11 : bits BinOp.and IntKind.i64 1 1 = 1 := by decide
theorem bits12 : bits BinOp.and IntKind.i64 1 2 = 0 := by decide
theorem bits14 : bits BinOp.and IntKind.i64 1 4 = 0 := by decide
theorem bits16 : bits BinOp.and IntKind.i64 1 16 = 0 := by decide
theorem bits01 : bits BinOp.or IntKind.i64 0 1 = 1 := by decide
/-- In the loop of Message: the parts, the whole, the answer so far. -/
def MsI (w : World) (P Wh O : Nat) (n fl it f2 : Int) (W : World) : Prop :=
  Blk W P 82 prtC ∧ Blk W Wh 49 #[.int .i64 0, .int .u32 0, .string ⟨#[]⟩, .int .i64 0, .string ⟨#[]⟩, .int .i64 0, .int .u8 fl, .int .u32 0, .int .u32 0, .slice none 0 0] ∧ Blk W O 49 #[.int .i64 4, .int .u32 n, .string ⟨#[]⟩, .int .i64 0, .string ⟨#[]⟩, .int .i64 it, .int .u8 f2, .int .u32 0, .int .u32 0, .slice none 0 0] ∧ Blk W (w.heap.size + 1) 49 #[.int .i64 0, .int .u32 0, .string ⟨#[]⟩, .int .i64 0, .string ⟨#[]⟩, .int .i64 0, .int .u8 0, .int .u32 0, .int .u32 0, .slice none 0 0] ∧ Below w.heap.size w W ∧ (w.heap.size ≤ P ∧ w.heap.size ≤ Wh ∧ w.heap.size ≤ O) ∧ (P ≠ O ∧ Wh ≠ O ∧ O ≠ w.heap.size + 1)
theorem MsI.past {w : World} {P Wh O : Nat} {n fl it f2 : Int} {W : World} (h : MsI w P Wh O n fl it f2 W) (o : Obj) : MsI w P Wh O n fl it f2 (W.alloc o) :=
  ⟨h.1.past o, h.2.1.past o, h.2.2.1.past o, h.2.2.2.1.past o, h.2.2.2.2.1.alloc h.2.2.2.2.1.size o, h.2.2.2.2.2⟩
theorem MsI.step0 {w : World} {P Wh O : Nat} {n fl : Int} {W w3 : World} (h : MsI w P Wh O n fl 0 0 W) (o : Obj) (hb : Blk w3 O 49 #[.int .i64 4, .int .u32 n, .string ⟨#[]⟩, .int .i64 0, .string ⟨#[]⟩, .int .i64 1, .int .u8 fl, .int .u32 0, .int .u32 0, .slice none 0 0]) (hbel : Below w.heap.size ((W.setCell ⟨O, 5, none⟩ (.int .i64 1)).alloc o) w3)
    (hk : ∀ k, k < ((W.setCell ⟨O, 5, none⟩ (.int .i64 1)).alloc o).heap.size → k ≠ O → w3.heap[k]? = ((W.setCell ⟨O, 5, none⟩ (.int .i64 1)).alloc o).heap[k]?) : MsI w P Wh O n fl 1 fl w3 := by
  obtain ⟨h1, h2, h3, h4, h5, h6, h7⟩ := h
  have hs : (W.setCell ⟨O, 5, none⟩ (.int .i64 1)).heap.size = W.heap.size := by simp [World.setCell]
  have hs2 : ((W.setCell ⟨O, 5, none⟩ (.int .i64 1)).alloc o).heap.size = W.heap.size + 1 := by rw [World.size_alloc, hs]
  have mv : ∀ {g : Nat} {t : TypeId} {cs : Array Value}, Blk W g t cs → g ≠ O → Blk w3 g t cs := fun {g t cs} hg hne => by
    have h0 := hg.lt
    refine (hk g (by omega) hne).trans ?_
    rw [Below.heap_alloc _ o g (by rw [hs]; exact h0), Below.heap_setCell W ⟨O, 5, none⟩ _ g hne]
    exact hg
  refine ⟨mv h1 h7.1, mv h2 h7.2.1, hb, mv h4 (fun e => h7.2.2 e.symm), ?_, h6, h7⟩
  exact ((h5.setCell (p := ⟨O, 5, none⟩) h6.2.2 _).alloc (by rw [hs]; exact h5.size) o).trans hbel
set_option maxRecDepth 100000 in
set_option maxHeartbeats 6400000 in
theorem flags_any (n fl : Int) (w : World) (hn0 : 0 ≤ n) (hn1 : n < 4294967296) :
    Calls Tryz.prog 39 #[.int .i64 n, .int .i64 1, .agg #[.int .u32 0, .int .u8 fl, .slice none 0 0]] w fun e w' => e = .returned (.agg #[.int .i64 4, .int .u32 n, .string ⟨#[]⟩, .int .i64 0, .string ⟨#[]⟩, .int .i64 1, .int .u8 fl, .int .u32 0, .int .u32 0, .slice none 0 0]) ∧ Below w.heap.size w w' := by
  have hwn : IntKind.u32.wrap n = n := by
    show n % 4294967296 = n
    omega
  have hw0 : IntKind.u32.wrap (0 : Int) = 0 := by decide
  have e18 := bits18
  have e11 := bits11
  have e12 := bits12
  have e14 := bits14
  have e16 := bits16
  have e01 := bits01
  have hb0 : Below w.heap.size w ((w.alloc (.cells #[.int .u32 0, .int .u8 fl, .slice none 0 0] 74)).alloc (.cells #[.int .i64 0, .int .u32 0, .string ⟨#[]⟩, .int .i64 0, .string ⟨#[]⟩, .int .i64 0, .int .u8 0, .int .u32 0, .int .u32 0, .slice none 0 0] 49)) := ((Below.refl _ w).alloc (Nat.le_refl _) _).alloc (by rw [World.size_alloc]; omega) _
  have km := (Blk.made w 74 #[.int .u32 0, .int .u8 fl, .slice none 0 0]).past (.cells #[.int .i64 0, .int .u32 0, .string ⟨#[]⟩, .int .i64 0, .string ⟨#[]⟩, .int .i64 0, .int .u8 0, .int .u32 0, .int .u32 0, .slice none 0 0] 49)
  have ko := Blk.made (w.alloc (.cells #[.int .u32 0, .int .u8 fl, .slice none 0 0] 74)) 49 #[.int .i64 0, .int .u32 0, .string ⟨#[]⟩, .int .i64 0, .string ⟨#[]⟩, .int .i64 0, .int .u8 0, .int .u32 0, .int .u32 0, .slice none 0 0]
  rw [World.size_alloc] at ko
  obtain ⟨W0, hW0⟩ : ∃ W0, (w.alloc (.cells #[.int .u32 0, .int .u8 fl, .slice none 0 0] 74)).alloc (.cells #[.int .i64 0, .int .u32 0, .string ⟨#[]⟩, .int .i64 0, .string ⟨#[]⟩, .int .i64 0, .int .u8 0, .int .u32 0, .int .u32 0, .slice none 0 0] 49) = W0 := ⟨_, rfl⟩
  have hsz : W0.heap.size = w.heap.size + 2 := by rw [← hW0, World.size_alloc, World.size_alloc]
  rw [hW0] at hb0 km ko
  have H0 := Lib.hid (show Below w.heap.size w W0.drew ∧ Blk W0.drew w.heap.size 74 #[.int .u32 0, .int .u8 fl, .slice none 0 0] ∧ Blk W0.drew (w.heap.size + 1) 49 #[.int .i64 0, .int .u32 0, .string ⟨#[]⟩, .int .i64 0, .string ⟨#[]⟩, .int .i64 0, .int .u8 0, .int .u32 0, .int .u32 0, .slice none 0 0] ∧ W0.drew.heap.size = w.heap.size + 2 from ⟨Below.drew hb0, km.drew, ko.drew, hsz⟩)
  clear hb0 km ko hn0 hn1
  go_enter Tryz.func39, Tryz.ntmps39
  go_upto_region 3 with fail
  clear hW0
  refine region_anyC (fun W => Blk W w.heap.size 74 #[.int .u32 0, .int .u8 fl, .slice none 0 0]) (by kernel_rfl) ?_
  refine anyC_take (i := 0) (v := ?_) rfl (by kernel_rfl) (by kernel_rfl) (by kernel_rfl) (fun _ _ _ h => h) (H0.out.2.1) (Or.inl ⟨by rfl, ?_⟩) ?_
  rotate_left
  · intro W hW
    go_simp
    try with_reducible rfl
  try simp only [List.getElem_toArray, List.getElem_cons_zero, List.getElem_cons_succ, Act.put, List.setIfInBounds_toArray, List.set_cons_zero, List.set_cons_succ]
  refine anyC_take (i := 2) (v := ?_) rfl (by kernel_rfl) (by kernel_rfl) (by kernel_rfl) (fun _ _ _ h => h) (H0.out.2.1) (Or.inl ⟨by rfl, ?_⟩) ?_
  rotate_left
  · intro W hW
    go_simp
    try with_reducible rfl
  try simp only [List.getElem_toArray, List.getElem_cons_zero, List.getElem_cons_succ, Act.put, List.setIfInBounds_toArray, List.set_cons_zero, List.set_cons_succ]
  refine anyC_take (i := 4) (v := ?_) rfl (by kernel_rfl) (by kernel_rfl) (by kernel_rfl) (fun _ _ _ h => h) (H0.out.2.1) (Or.inl ⟨by rfl, ?_⟩) ?_
  rotate_left
  · intro W hW
    go_simp
    try with_reducible rfl
  try simp only [List.getElem_toArray, List.getElem_cons_zero, List.getElem_cons_succ, Act.put, List.setIfInBounds_toArray, List.set_cons_zero, List.set_cons_succ]
  refine anyC_take (i := 8) (v := ?_) rfl (by kernel_rfl) (by kernel_rfl) (by kernel_rfl) (fun _ _ _ h => h) (H0.out.2.1) (Or.inl ⟨by rfl, ?_⟩) ?_
  rotate_left
  · intro W hW
    go_simp
    try with_reducible rfl
  try simp only [List.getElem_toArray, List.getElem_cons_zero, List.getElem_cons_succ, Act.put, List.setIfInBounds_toArray, List.set_cons_zero, List.set_cons_succ]
  refine anyC_take (i := 1) (v := ?_) rfl (by kernel_rfl) (by kernel_rfl) (by kernel_rfl) (fun _ _ _ h => h) (H0.out.2.1) (Or.inl ⟨by rfl, ?_⟩) ?_
  rotate_left
  · intro W hW
    have m0 : W.cell? ⟨w.heap.size, 0, none⟩ = some (.int .u32 0) := hW.cell 0
    have m1 : W.cell? ⟨w.heap.size, 1, none⟩ = some (.int .u8 fl) := hW.cell 1
    have m2 : W.cell? ⟨w.heap.size, 2, none⟩ = some (.slice none 0 0) := hW.cell 2
    go_simp
    try with_reducible rfl
  try simp only [List.getElem_toArray, List.getElem_cons_zero, List.getElem_cons_succ, Act.put, List.setIfInBounds_toArray, List.set_cons_zero, List.set_cons_succ]
  refine anyC_take (i := 3) (v := ?_) rfl (by kernel_rfl) (by kernel_rfl) (by kernel_rfl) (fun _ _ _ h => h) (H0.out.2.1) (Or.inl ⟨by rfl, ?_⟩) ?_
  rotate_left
  · intro W hW
    have m0 : W.cell? ⟨w.heap.size, 0, none⟩ = some (.int .u32 0) := hW.cell 0
    have m1 : W.cell? ⟨w.heap.size, 1, none⟩ = some (.int .u8 fl) := hW.cell 1
    have m2 : W.cell? ⟨w.heap.size, 2, none⟩ = some (.slice none 0 0) := hW.cell 2
    go_simp
    try with_reducible rfl
  try simp only [List.getElem_toArray, List.getElem_cons_zero, List.getElem_cons_succ, Act.put, List.setIfInBounds_toArray, List.set_cons_zero, List.set_cons_succ]
  refine anyC_take (i := 5) (v := ?_) rfl (by kernel_rfl) (by kernel_rfl) (by kernel_rfl) (fun _ _ _ h => h) (H0.out.2.1) (Or.inl ⟨by rfl, ?_⟩) ?_
  rotate_left
  · intro W hW
    have m0 : W.cell? ⟨w.heap.size, 0, none⟩ = some (.int .u32 0) := hW.cell 0
    have m1 : W.cell? ⟨w.heap.size, 1, none⟩ = some (.int .u8 fl) := hW.cell 1
    have m2 : W.cell? ⟨w.heap.size, 2, none⟩ = some (.slice none 0 0) := hW.cell 2
    go_simp
    try with_reducible rfl
  try simp only [List.getElem_toArray, List.getElem_cons_zero, List.getElem_cons_succ, Act.put, List.setIfInBounds_toArray, List.set_cons_zero, List.set_cons_succ]
  refine anyC_take (i := 9) (v := ?_) rfl (by kernel_rfl) (by kernel_rfl) (by kernel_rfl) (fun _ _ _ h => h) (H0.out.2.1) (Or.inl ⟨by rfl, ?_⟩) ?_
  rotate_left
  · intro W hW
    have m0 : W.cell? ⟨w.heap.size, 0, none⟩ = some (.int .u32 0) := hW.cell 0
    have m1 : W.cell? ⟨w.heap.size, 1, none⟩ = some (.int .u8 fl) := hW.cell 1
    have m2 : W.cell? ⟨w.heap.size, 2, none⟩ = some (.slice none 0 0) := hW.cell 2
    go_simp
    try with_reducible rfl
  try simp only [List.getElem_toArray, List.getElem_cons_zero, List.getElem_cons_succ, Act.put, List.setIfInBounds_toArray, List.set_cons_zero, List.set_cons_succ]
  refine anyC_take (i := 6) (v := ?_) rfl (by kernel_rfl) (by kernel_rfl) (by kernel_rfl) (fun _ _ _ h => h) (H0.out.2.1) (Or.inl ⟨by rfl, ?_⟩) ?_
  rotate_left
  · intro W hW
    go_simp
    try with_reducible rfl
  try simp only [List.getElem_toArray, List.getElem_cons_zero, List.getElem_cons_succ, Act.put, List.setIfInBounds_toArray, List.set_cons_zero, List.set_cons_succ]
  refine anyC_take (i := 7) (v := ?_) rfl (by kernel_rfl) (by kernel_rfl) (by kernel_rfl) (fun _ _ _ h => h) (H0.out.2.1) (Or.inl ⟨by rfl, ?_⟩) ?_
  rotate_left
  · intro W hW
    go_simp
    try with_reducible rfl
  try simp only [List.getElem_toArray, List.getElem_cons_zero, List.getElem_cons_succ, Act.put, List.setIfInBounds_toArray, List.set_cons_zero, List.set_cons_succ]
  refine anyC_two (i := 10) (k := 12) (by kernel_rfl) (fun K hK => ⟨_, rfl, by kernel_rfl, ?_⟩) (fun K hK => ⟨_, rfl, by kernel_rfl, ?_⟩)
  · go_simp
    refine (clone_nil _).mono ?_
    rintro e w9 ⟨rfl, rfl⟩
    refine hK _ _ (H0.out.2.1) ?_
    clear hK K
    try simp only [List.getElem_toArray, List.getElem_cons_zero, List.getElem_cons_succ, Act.put, List.setIfInBounds_toArray, List.set_cons_zero, List.set_cons_succ]
    refine anyC_take (i := 11) (v := ?_) rfl (by kernel_rfl) (by kernel_rfl) (by kernel_rfl) (fun _ _ _ h => h) (H0.out.2.1) (Or.inl ⟨by rfl, ?_⟩) ?_
    rotate_left
    · intro W hW
      go_simp
      try with_reducible rfl
    try simp only [List.getElem_toArray, List.getElem_cons_zero, List.getElem_cons_succ, Act.put, List.setIfInBounds_toArray, List.set_cons_zero, List.set_cons_succ]
    refine anyC_one (i := 12) (by kernel_rfl) (fun K hK => ⟨_, rfl, by kernel_rfl, ?_⟩)
    go_simp
    refine hK _ _ (H0.out.2.1.past _) ?_
    clear hK K
    try simp only [List.getElem_toArray, List.getElem_cons_zero, List.getElem_cons_succ, Act.put, List.setIfInBounds_toArray, List.set_cons_zero, List.set_cons_succ]
    refine anyC_one (i := 13) (by kernel_rfl) (fun K hK => ⟨_, rfl, by kernel_rfl, ?_⟩)
    go_simp
    refine hK _ _ (H0.out.2.1.past _) ?_
    clear hK K
    try simp only [List.getElem_toArray, List.getElem_cons_zero, List.getElem_cons_succ, Act.put, List.setIfInBounds_toArray, List.set_cons_zero, List.set_cons_succ]
    refine anyC_done (by kernel_rfl) ?_ _
    have kw := Blk.made W0.drew 49 #[.int .i64 0, .int .u32 0, .string ⟨#[]⟩, .int .i64 0, .string ⟨#[]⟩, .int .i64 0, .int .u8 fl, .int .u32 0, .int .u32 0, .slice none 0 0]
    rw [H0.out.2.2.2] at kw
    have k1 := H0.out.2.2.1.past (.cells #[.int .i64 0, .int .u32 0, .string ⟨#[]⟩, .int .i64 0, .string ⟨#[]⟩, .int .i64 0, .int .u8 fl, .int .u32 0, .int .u32 0, .slice none 0 0] 49)
    have b1 := H0.out.1.alloc H0.out.1.size (.cells #[.int .i64 0, .int .u32 0, .string ⟨#[]⟩, .int .i64 0, .string ⟨#[]⟩, .int .i64 0, .int .u8 fl, .int .u32 0, .int .u32 0, .slice none 0 0] 49)
    have kw2 := kw.past (.cells #[.int .i64 4, .int .u32 n, .string ⟨#[]⟩, .int .i64 0, .string ⟨#[]⟩, .int .i64 0, .int .u8 0, .int .u32 0, .int .u32 0, .slice none 0 0] 49)
    have k2 := k1.past (.cells #[.int .i64 4, .int .u32 n, .string ⟨#[]⟩, .int .i64 0, .string ⟨#[]⟩, .int .i64 0, .int .u8 0, .int .u32 0, .int .u32 0, .slice none 0 0] 49)
    have b2 := b1.alloc b1.size (.cells #[.int .i64 4, .int .u32 n, .string ⟨#[]⟩, .int .i64 0, .string ⟨#[]⟩, .int .i64 0, .int .u8 0, .int .u32 0, .int .u32 0, .slice none 0 0] 49)
    have kz := Blk.made (W0.drew.alloc (.cells #[.int .i64 0, .int .u32 0, .string ⟨#[]⟩, .int .i64 0, .string ⟨#[]⟩, .int .i64 0, .int .u8 fl, .int .u32 0, .int .u32 0, .slice none 0 0] 49)) 49 #[.int .i64 4, .int .u32 n, .string ⟨#[]⟩, .int .i64 0, .string ⟨#[]⟩, .int .i64 0, .int .u8 0, .int .u32 0, .int .u32 0, .slice none 0 0]
    rw [World.size_alloc, H0.out.2.2.2] at kz
    have hs2 : ((W0.drew.alloc (.cells #[.int .i64 0, .int .u32 0, .string ⟨#[]⟩, .int .i64 0, .string ⟨#[]⟩, .int .i64 0, .int .u8 fl, .int .u32 0, .int .u32 0, .slice none 0 0] 49)).alloc (.cells #[.int .i64 4, .int .u32 n, .string ⟨#[]⟩, .int .i64 0, .string ⟨#[]⟩, .int .i64 0, .int .u8 0, .int .u32 0, .int .u32 0, .slice none 0 0] 49)).heap.size = w.heap.size + 4 := by rw [World.size_alloc, World.size_alloc, H0.out.2.2.2]
    have H1 := Lib.hid (And.intro kw2 (And.intro k2 (And.intro b2 (And.intro kz hs2))))
    clear kw k1 b1 kw2 k2 b2 kz hs2
    have hpp := parts_any ((W0.drew.alloc (.cells #[.int .i64 0, .int .u32 0, .string ⟨#[]⟩, .int .i64 0, .string ⟨#[]⟩, .int .i64 0, .int .u8 fl, .int .u32 0, .int .u32 0, .slice none 0 0] 49)).alloc (.cells #[.int .i64 4, .int .u32 n, .string ⟨#[]⟩, .int .i64 0, .string ⟨#[]⟩, .int .i64 0, .int .u8 0, .int .u32 0, .int .u32 0, .slice none 0 0] 49))
    rw [H1.out.2.2.2.2] at hpp
    have HPP := Lib.hid hpp
    clear hpp
    go_wp2_with fail
    refine HPP.out.mono ?_
    rintro e w2 ⟨rfl, hp2, hb2⟩
    have hI : MsI w (w.heap.size + 4) (w.heap.size + 2) (w.heap.size + 2 + 1) n fl 0 0 w2 := ⟨hp2, H1.out.1.below hb2 (by omega), H1.out.2.2.2.1.below hb2 (by omega), H1.out.2.1.below hb2 (by omega), H1.out.2.2.1.trans (hb2.mono (by omega)), by omega, by omega⟩
    have HI := Lib.hid hI
    clear hp2 hb2 hI
    go_wp2_with fail
    go_loopw [33] (fun i wr => ∃ k : Nat, k ≤ 4 ∧ i = .int .i64 k ∧ MsI w (w.heap.size + 4) (w.heap.size + 2) (w.heap.size + 2 + 1) n fl (if k = 0 then 0 else 1) (if k = 0 then 0 else fl) wr) (fun i _ => 4 - (intOf i).toNat)
    case atStart => exact ⟨0, by omega, rfl, HI.out⟩
    case round =>
      obtain ⟨k, hk, rfl, hI⟩ := hrel
      have hk5 : k = 0 ∨ k = 1 ∨ k = 2 ∨ k = 3 ∨ k = 4 := by omega
      clear hk
      rcases hk5 with rfl | rfl | rfl | rfl | rfl
      · have HI1 := Lib.hid (show MsI w (w.heap.size + 4) (w.heap.size + 2) (w.heap.size + 2 + 1) n fl 0 0 wr from hI)
        clear hI
        have p0 : wr.cell? ⟨w.heap.size + 4, 0, none⟩ = some (.int .i64 1) := HI1.out.1.cell 0
        have p1 : wr.cell? ⟨w.heap.size + 4, 1, none⟩ = some (.func (.func 52) #[] #[]) := HI1.out.1.cell 1
        have p2 : wr.cell? ⟨w.heap.size + 4, 2, none⟩ = some (.func (.func 54) #[] #[]) := HI1.out.1.cell 2
        have o5 : wr.cell? ⟨w.heap.size + 2 + 1, 5, none⟩ = some (.int .i64 0) := HI1.out.2.2.1.cell 5
        have f5 : wr.frozen? ⟨w.heap.size + 2 + 1, 5, none⟩ = false := HI1.out.2.2.1.frz 5
        have h0 : wr.cell? ⟨w.heap.size + 2, 0, none⟩ = some (.int .i64 0) := HI1.out.2.1.cell 0
        have h1 : wr.cell? ⟨w.heap.size + 2, 1, none⟩ = some (.int .u32 0) := HI1.out.2.1.cell 1
        have h2 : wr.cell? ⟨w.heap.size + 2, 2, none⟩ = some (.string ⟨#[]⟩) := HI1.out.2.1.cell 2
        have h3 : wr.cell? ⟨w.heap.size + 2, 3, none⟩ = some (.int .i64 0) := HI1.out.2.1.cell 3
        have h4 : wr.cell? ⟨w.heap.size + 2, 4, none⟩ = some (.string ⟨#[]⟩) := HI1.out.2.1.cell 4
        have h5 : wr.cell? ⟨w.heap.size + 2, 5, none⟩ = some (.int .i64 0) := HI1.out.2.1.cell 5
        have h6 : wr.cell? ⟨w.heap.size + 2, 6, none⟩ = some (.int .u8 fl) := HI1.out.2.1.cell 6
        have h7 : wr.cell? ⟨w.heap.size + 2, 7, none⟩ = some (.int .u32 0) := HI1.out.2.1.cell 7
        have h8 : wr.cell? ⟨w.heap.size + 2, 8, none⟩ = some (.int .u32 0) := HI1.out.2.1.cell 8
        have h9 : wr.cell? ⟨w.heap.size + 2, 9, none⟩ = some (.slice none 0 0) := HI1.out.2.1.cell 9
        have hlo := HI1.out.2.2.1.lt
        have hlw := HI1.out.2.1.lt
        have hlp := HI1.out.1.lt
        have hko : ∀ o, Blk ((wr.setCell ⟨w.heap.size + 2 + 1, 5, none⟩ (.int .i64 1)).alloc o) (w.heap.size + 2 + 1) 49 #[.int .i64 4, .int .u32 n, .string ⟨#[]⟩, .int .i64 0, .string ⟨#[]⟩, .int .i64 1, .int .u8 0, .int .u32 0, .int .u32 0, .slice none 0 0] := fun o => (HI1.out.2.2.1.put 5 (.int .i64 1)).past o
        have HKO := Lib.hid hko
        have hsw : (wr.setCell ⟨w.heap.size + 2 + 1, 5, none⟩ (.int .i64 1)).heap.size = wr.heap.size := by simp [World.setCell]
        have HSW := Lib.hid hsw
        clear hko hsw
        go_wp2_with fail
        refine (copyf_any w.heap.size (w.heap.size + 2 + 1) fl _ _ _ (HKO.out _) rfl (by omega) (by rw [World.size_alloc, HSW.out]; omega)).mono ?_
        rintro e w3 ⟨rfl, hk3, hb3, ho3⟩
        have H3 := Lib.hid (MsI.step0 HI1.out _ hk3 hb3 ho3)
        clear hk3 hb3 ho3 h0 h1 h2 h3 h4 h5 h6 h7 h8 h9 o5 f5 p0 p1 p2
        go_wp2_with fail
        go_roundw
        case rel => exact ⟨1, by omega, by go_num, H3.out⟩
        case measure => simp [intOf]
      · have HI1 := Lib.hid (show MsI w (w.heap.size + 4) (w.heap.size + 2) (w.heap.size + 2 + 1) n fl 1 fl wr from hI)
        clear hI
        have p0 : wr.cell? ⟨w.heap.size + 4, 3, none⟩ = some (.int .i64 2) := HI1.out.1.cell 3
        have p1 : wr.cell? ⟨w.heap.size + 4, 4, none⟩ = some (.func (.func 55) #[] #[]) := HI1.out.1.cell 4
        have p2 : wr.cell? ⟨w.heap.size + 4, 5, none⟩ = some (.func (.func 57) #[] #[]) := HI1.out.1.cell 5
        go_wp2_with fail
        go_roundw
        case rel => exact ⟨2, by omega, by go_num, HI1.out.past _⟩
        case measure => simp [intOf]
      · have HI1 := Lib.hid (show MsI w (w.heap.size + 4) (w.heap.size + 2) (w.heap.size + 2 + 1) n fl 1 fl wr from hI)
        clear hI
        have p0 : wr.cell? ⟨w.heap.size + 4, 6, none⟩ = some (.int .i64 4) := HI1.out.1.cell 6
        have p1 : wr.cell? ⟨w.heap.size + 4, 7, none⟩ = some (.func (.func 58) #[] #[]) := HI1.out.1.cell 7
        have p2 : wr.cell? ⟨w.heap.size + 4, 8, none⟩ = some (.func (.func 59) #[] #[]) := HI1.out.1.cell 8
        go_wp2_with fail
        go_roundw
        case rel => exact ⟨3, by omega, by go_num, HI1.out.past _⟩
        case measure => simp [intOf]
      · have HI1 := Lib.hid (show MsI w (w.heap.size + 4) (w.heap.size + 2) (w.heap.size + 2 + 1) n fl 1 fl wr from hI)
        clear hI
        have p0 : wr.cell? ⟨w.heap.size + 4, 9, none⟩ = some (.int .i64 16) := HI1.out.1.cell 9
        have p1 : wr.cell? ⟨w.heap.size + 4, 10, none⟩ = some (.func (.func 60) #[] #[]) := HI1.out.1.cell 10
        have p2 : wr.cell? ⟨w.heap.size + 4, 11, none⟩ = some (.func (.func 62) #[] #[]) := HI1.out.1.cell 11
        go_wp2_with fail
        go_roundw
        case rel => exact ⟨4, by omega, by go_num, HI1.out.past _⟩
        case measure => simp [intOf]
      · have HI1 := Lib.hid (show MsI w (w.heap.size + 4) (w.heap.size + 2) (w.heap.size + 2 + 1) n fl 1 fl wr from hI)
        clear hI
        obtain ⟨⟨o0, o1, o2, o3, o4, o5, o6, o7, o8, o9⟩, -⟩ := Blk.ten HI1.out.2.2.1
        obtain ⟨⟨d0, d1, d2, d3, d4, d5, d6, d7, d8, d9⟩, ⟨z0, z1, z2, z3, z4, z5, z6, z7, z8, z9⟩⟩ := Blk.ten HI1.out.2.2.2.1
        go_wp2_with fail
        have hp := ((((((((((HI1.out.2.2.2.1.put 0 (.int .i64 4)).put 1 (.int .u32 n)).put 2 (.string ⟨#[]⟩)).put 3 (.int .i64 0)).put 4 (.string ⟨#[]⟩)).put 5 (.int .i64 1)).put 6 (.int .u8 fl)).put 7 (.int .u32 0)).put 8 (.int .u32 0)).put 9 (.slice none 0 0))
        simp only [List.setIfInBounds_toArray, List.set_cons_zero, List.set_cons_succ] at hp
        refine bodyPost_ret (v := .agg #[.int .i64 4, .int .u32 n, .string ⟨#[]⟩, .int .i64 0, .string ⟨#[]⟩, .int .i64 1, .int .u8 fl, .int .u32 0, .int .u32 0, .slice none 0 0]) (results_ten1 (by rfl) (by rfl) hp) rfl ⟨rfl, ?_⟩
        have hq := HI1.out.2.2.2.2.1
        repeat with_reducible refine Below.setCell ?_ (by dsimp only; omega) _
        exact hq
  · go_simp
    refine hK _ _ (H0.out.2.1.past _) ?_
    clear hK K
    try simp only [List.getElem_toArray, List.getElem_cons_zero, List.getElem_cons_succ, Act.put, List.setIfInBounds_toArray, List.set_cons_zero, List.set_cons_succ]
    refine anyC_one (i := 10) (by kernel_rfl) (fun K hK => ⟨_, rfl, by kernel_rfl, ?_⟩)
    go_simp
    refine (clone_nil _).mono ?_
    rintro e w9 ⟨rfl, rfl⟩
    refine hK _ _ (H0.out.2.1.past _) ?_
    clear hK K
    try simp only [List.getElem_toArray, List.getElem_cons_zero, List.getElem_cons_succ, Act.put, List.setIfInBounds_toArray, List.set_cons_zero, List.set_cons_succ]
    refine anyC_take (i := 11) (v := ?_) rfl (by kernel_rfl) (by kernel_rfl) (by kernel_rfl) (fun _ _ _ h => h) (H0.out.2.1.past _) (Or.inl ⟨by rfl, ?_⟩) ?_
    rotate_left
    · intro W hW
      go_simp
      try with_reducible rfl
    try simp only [List.getElem_toArray, List.getElem_cons_zero, List.getElem_cons_succ, Act.put, List.setIfInBounds_toArray, List.set_cons_zero, List.set_cons_succ]
    refine anyC_one (i := 13) (by kernel_rfl) (fun K hK => ⟨_, rfl, by kernel_rfl, ?_⟩)
    go_simp
    refine hK _ _ (H0.out.2.1.past _) ?_
    clear hK K
    try simp only [List.getElem_toArray, List.getElem_cons_zero, List.getElem_cons_succ, Act.put, List.setIfInBounds_toArray, List.set_cons_zero, List.set_cons_succ]
    refine anyC_done (by kernel_rfl) ?_ _
    have kw := Blk.made W0.drew 49 #[.int .i64 0, .int .u32 0, .string ⟨#[]⟩, .int .i64 0, .string ⟨#[]⟩, .int .i64 0, .int .u8 fl, .int .u32 0, .int .u32 0, .slice none 0 0]
    rw [H0.out.2.2.2] at kw
    have k1 := H0.out.2.2.1.past (.cells #[.int .i64 0, .int .u32 0, .string ⟨#[]⟩, .int .i64 0, .string ⟨#[]⟩, .int .i64 0, .int .u8 fl, .int .u32 0, .int .u32 0, .slice none 0 0] 49)
    have b1 := H0.out.1.alloc H0.out.1.size (.cells #[.int .i64 0, .int .u32 0, .string ⟨#[]⟩, .int .i64 0, .string ⟨#[]⟩, .int .i64 0, .int .u8 fl, .int .u32 0, .int .u32 0, .slice none 0 0] 49)
    have kw2 := kw.past (.cells #[.int .i64 4, .int .u32 n, .string ⟨#[]⟩, .int .i64 0, .string ⟨#[]⟩, .int .i64 0, .int .u8 0, .int .u32 0, .int .u32 0, .slice none 0 0] 49)
    have k2 := k1.past (.cells #[.int .i64 4, .int .u32 n, .string ⟨#[]⟩, .int .i64 0, .string ⟨#[]⟩, .int .i64 0, .int .u8 0, .int .u32 0, .int .u32 0, .slice none 0 0] 49)
    have b2 := b1.alloc b1.size (.cells #[.int .i64 4, .int .u32 n, .string ⟨#[]⟩, .int .i64 0, .string ⟨#[]⟩, .int .i64 0, .int .u8 0, .int .u32 0, .int .u32 0, .slice none 0 0] 49)
    have kz := Blk.made (W0.drew.alloc (.cells #[.int .i64 0, .int .u32 0, .string ⟨#[]⟩, .int .i64 0, .string ⟨#[]⟩, .int .i64 0, .int .u8 fl, .int .u32 0, .int .u32 0, .slice none 0 0] 49)) 49 #[.int .i64 4, .int .u32 n, .string ⟨#[]⟩, .int .i64 0, .string ⟨#[]⟩, .int .i64 0, .int .u8 0, .int .u32 0, .int .u32 0, .slice none 0 0]
    rw [World.size_alloc, H0.out.2.2.2] at kz
    have hs2 : ((W0.drew.alloc (.cells #[.int .i64 0, .int .u32 0, .string ⟨#[]⟩, .int .i64 0, .string ⟨#[]⟩, .int .i64 0, .int .u8 fl, .int .u32 0, .int .u32 0, .slice none 0 0] 49)).alloc (.cells #[.int .i64 4, .int .u32 n, .string ⟨#[]⟩, .int .i64 0, .string ⟨#[]⟩, .int .i64 0, .int .u8 0, .int .u32 0, .int .u32 0, .slice none 0 0] 49)).heap.size = w.heap.size + 4 := by rw [World.size_alloc, World.size_alloc, H0.out.2.2.2]
    have H1 := Lib.hid (And.intro kw2 (And.intro k2 (And.intro b2 (And.intro kz hs2))))
    clear kw k1 b1 kw2 k2 b2 kz hs2
    have hpp := parts_any ((W0.drew.alloc (.cells #[.int .i64 0, .int .u32 0, .string ⟨#[]⟩, .int .i64 0, .string ⟨#[]⟩, .int .i64 0, .int .u8 fl, .int .u32 0, .int .u32 0, .slice none 0 0] 49)).alloc (.cells #[.int .i64 4, .int .u32 n, .string ⟨#[]⟩, .int .i64 0, .string ⟨#[]⟩, .int .i64 0, .int .u8 0, .int .u32 0, .int .u32 0, .slice none 0 0] 49))
    rw [H1.out.2.2.2.2] at hpp
    have HPP := Lib.hid hpp
    clear hpp
    go_wp2_with fail
    refine HPP.out.mono ?_
    rintro e w2 ⟨rfl, hp2, hb2⟩
    have hI : MsI w (w.heap.size + 4) (w.heap.size + 2) (w.heap.size + 2 + 1) n fl 0 0 w2 := ⟨hp2, H1.out.1.below hb2 (by omega), H1.out.2.2.2.1.below hb2 (by omega), H1.out.2.1.below hb2 (by omega), H1.out.2.2.1.trans (hb2.mono (by omega)), by omega, by omega⟩
    have HI := Lib.hid hI
    clear hp2 hb2 hI
    go_wp2_with fail
    go_loopw [33] (fun i wr => ∃ k : Nat, k ≤ 4 ∧ i = .int .i64 k ∧ MsI w (w.heap.size + 4) (w.heap.size + 2) (w.heap.size + 2 + 1) n fl (if k = 0 then 0 else 1) (if k = 0 then 0 else fl) wr) (fun i _ => 4 - (intOf i).toNat)
    case atStart => exact ⟨0, by omega, rfl, HI.out⟩
    case round =>
      obtain ⟨k, hk, rfl, hI⟩ := hrel
      have hk5 : k = 0 ∨ k = 1 ∨ k = 2 ∨ k = 3 ∨ k = 4 := by omega
      clear hk
      rcases hk5 with rfl | rfl | rfl | rfl | rfl
      · have HI1 := Lib.hid (show MsI w (w.heap.size + 4) (w.heap.size + 2) (w.heap.size + 2 + 1) n fl 0 0 wr from hI)
        clear hI
        have p0 : wr.cell? ⟨w.heap.size + 4, 0, none⟩ = some (.int .i64 1) := HI1.out.1.cell 0
        have p1 : wr.cell? ⟨w.heap.size + 4, 1, none⟩ = some (.func (.func 52) #[] #[]) := HI1.out.1.cell 1
        have p2 : wr.cell? ⟨w.heap.size + 4, 2, none⟩ = some (.func (.func 54) #[] #[]) := HI1.out.1.cell 2
        have o5 : wr.cell? ⟨w.heap.size + 2 + 1, 5, none⟩ = some (.int .i64 0) := HI1.out.2.2.1.cell 5
        have f5 : wr.frozen? ⟨w.heap.size + 2 + 1, 5, none⟩ = false := HI1.out.2.2.1.frz 5
        have h0 : wr.cell? ⟨w.heap.size + 2, 0, none⟩ = some (.int .i64 0) := HI1.out.2.1.cell 0
        have h1 : wr.cell? ⟨w.heap.size + 2, 1, none⟩ = some (.int .u32 0) := HI1.out.2.1.cell 1
        have h2 : wr.cell? ⟨w.heap.size + 2, 2, none⟩ = some (.string ⟨#[]⟩) := HI1.out.2.1.cell 2
        have h3 : wr.cell? ⟨w.heap.size + 2, 3, none⟩ = some (.int .i64 0) := HI1.out.2.1.cell 3
        have h4 : wr.cell? ⟨w.heap.size + 2, 4, none⟩ = some (.string ⟨#[]⟩) := HI1.out.2.1.cell 4
        have h5 : wr.cell? ⟨w.heap.size + 2, 5, none⟩ = some (.int .i64 0) := HI1.out.2.1.cell 5
        have h6 : wr.cell? ⟨w.heap.size + 2, 6, none⟩ = some (.int .u8 fl) := HI1.out.2.1.cell 6
        have h7 : wr.cell? ⟨w.heap.size + 2, 7, none⟩ = some (.int .u32 0) := HI1.out.2.1.cell 7
        have h8 : wr.cell? ⟨w.heap.size + 2, 8, none⟩ = some (.int .u32 0) := HI1.out.2.1.cell 8
        have h9 : wr.cell? ⟨w.heap.size + 2, 9, none⟩ = some (.slice none 0 0) := HI1.out.2.1.cell 9
        have hlo := HI1.out.2.2.1.lt
        have hlw := HI1.out.2.1.lt
        have hlp := HI1.out.1.lt
        have hko : ∀ o, Blk ((wr.setCell ⟨w.heap.size + 2 + 1, 5, none⟩ (.int .i64 1)).alloc o) (w.heap.size + 2 + 1) 49 #[.int .i64 4, .int .u32 n, .string ⟨#[]⟩, .int .i64 0, .string ⟨#[]⟩, .int .i64 1, .int .u8 0, .int .u32 0, .int .u32 0, .slice none 0 0] := fun o => (HI1.out.2.2.1.put 5 (.int .i64 1)).past o
        have HKO := Lib.hid hko
        have hsw : (wr.setCell ⟨w.heap.size + 2 + 1, 5, none⟩ (.int .i64 1)).heap.size = wr.heap.size := by simp [World.setCell]
        have HSW := Lib.hid hsw
        clear hko hsw
        go_wp2_with fail
        refine (copyf_any w.heap.size (w.heap.size + 2 + 1) fl _ _ _ (HKO.out _) rfl (by omega) (by rw [World.size_alloc, HSW.out]; omega)).mono ?_
        rintro e w3 ⟨rfl, hk3, hb3, ho3⟩
        have H3 := Lib.hid (MsI.step0 HI1.out _ hk3 hb3 ho3)
        clear hk3 hb3 ho3 h0 h1 h2 h3 h4 h5 h6 h7 h8 h9 o5 f5 p0 p1 p2
        go_wp2_with fail
        go_roundw
        case rel => exact ⟨1, by omega, by go_num, H3.out⟩
        case measure => simp [intOf]
      · have HI1 := Lib.hid (show MsI w (w.heap.size + 4) (w.heap.size + 2) (w.heap.size + 2 + 1) n fl 1 fl wr from hI)
        clear hI
        have p0 : wr.cell? ⟨w.heap.size + 4, 3, none⟩ = some (.int .i64 2) := HI1.out.1.cell 3
        have p1 : wr.cell? ⟨w.heap.size + 4, 4, none⟩ = some (.func (.func 55) #[] #[]) := HI1.out.1.cell 4
        have p2 : wr.cell? ⟨w.heap.size + 4, 5, none⟩ = some (.func (.func 57) #[] #[]) := HI1.out.1.cell 5
        go_wp2_with fail
        go_roundw
        case rel => exact ⟨2, by omega, by go_num, HI1.out.past _⟩
        case measure => simp [intOf]
      · have HI1 := Lib.hid (show MsI w (w.heap.size + 4) (w.heap.size + 2) (w.heap.size + 2 + 1) n fl 1 fl wr from hI)
        clear hI
        have p0 : wr.cell? ⟨w.heap.size + 4, 6, none⟩ = some (.int .i64 4) := HI1.out.1.cell 6
        have p1 : wr.cell? ⟨w.heap.size + 4, 7, none⟩ = some (.func (.func 58) #[] #[]) := HI1.out.1.cell 7
        have p2 : wr.cell? ⟨w.heap.size + 4, 8, none⟩ = some (.func (.func 59) #[] #[]) := HI1.out.1.cell 8
        go_wp2_with fail
        go_roundw
        case rel => exact ⟨3, by omega, by go_num, HI1.out.past _⟩
        case measure => simp [intOf]
      · have HI1 := Lib.hid (show MsI w (w.heap.size + 4) (w.heap.size + 2) (w.heap.size + 2 + 1) n fl 1 fl wr from hI)
        clear hI
        have p0 : wr.cell? ⟨w.heap.size + 4, 9, none⟩ = some (.int .i64 16) := HI1.out.1.cell 9
        have p1 : wr.cell? ⟨w.heap.size + 4, 10, none⟩ = some (.func (.func 60) #[] #[]) := HI1.out.1.cell 10
        have p2 : wr.cell? ⟨w.heap.size + 4, 11, none⟩ = some (.func (.func 62) #[] #[]) := HI1.out.1.cell 11
        go_wp2_with fail
        go_roundw
        case rel => exact ⟨4, by omega, by go_num, HI1.out.past _⟩
        case measure => simp [intOf]
      · have HI1 := Lib.hid (show MsI w (w.heap.size + 4) (w.heap.size + 2) (w.heap.size + 2 + 1) n fl 1 fl wr from hI)
        clear hI
        obtain ⟨⟨o0, o1, o2, o3, o4, o5, o6, o7, o8, o9⟩, -⟩ := Blk.ten HI1.out.2.2.1
        obtain ⟨⟨d0, d1, d2, d3, d4, d5, d6, d7, d8, d9⟩, ⟨z0, z1, z2, z3, z4, z5, z6, z7, z8, z9⟩⟩ := Blk.ten HI1.out.2.2.2.1
        go_wp2_with fail
        have hp := ((((((((((HI1.out.2.2.2.1.put 0 (.int .i64 4)).put 1 (.int .u32 n)).put 2 (.string ⟨#[]⟩)).put 3 (.int .i64 0)).put 4 (.string ⟨#[]⟩)).put 5 (.int .i64 1)).put 6 (.int .u8 fl)).put 7 (.int .u32 0)).put 8 (.int .u32 0)).put 9 (.slice none 0 0))
        simp only [List.setIfInBounds_toArray, List.set_cons_zero, List.set_cons_succ] at hp
        refine bodyPost_ret (v := .agg #[.int .i64 4, .int .u32 n, .string ⟨#[]⟩, .int .i64 0, .string ⟨#[]⟩, .int .i64 1, .int .u8 fl, .int .u32 0, .int .u32 0, .slice none 0 0]) (results_ten1 (by rfl) (by rfl) hp) rfl ⟨rfl, ?_⟩
        have hq := HI1.out.2.2.2.2.1
        repeat with_reducible refine Below.setCell ?_ (by dsimp only; omega) _
        exact hq
end Go.Proofs.YtponmnabbieafaaGreatDoor
