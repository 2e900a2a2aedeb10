/- view.New is never nil; the small functions of the statements of plans; the example of the chapter. -/
import Derived.Test.YtamholmjppgfiaaGreatDoorPlanC
import Derived.Test.YtamholmjppgfiaaGreatDoorPlanS
import Derived.Test.YtamholmjppgfiaaGreatDoorLawRsA
import Derived.Laws.ResultCell
set_option linter.unusedVariables false
set_option linter.unusedSimpArgs false
namespace Go.Proofs.YtamholmjppgfiaaGreatDoor
open Go Go.RowKit Go.Shelf Go.Lib Go.Sort

set_option maxHeartbeats 1000000 in
theorem vnew_some (l : List Int) (v : Value) (w : World) (hU : U32 w w.heap.size v l) (hl : l.length ≤ 1048576) (h0 : ∀ x ∈ l, 0 ≤ x) :
    Calls Tryz.prog 17 #[v] w fun e w' => ∃ vb, e = .returned (.pointer (some ⟨vb, 0, none⟩)) ∧ VwR w' w'.heap.size (some ⟨vb, 0, none⟩) (srtU l) ∧ Below w.heap.size w w' := by
  obtain ⟨A, cap, rfl, hc1, hc2⟩ := hU
  have HN := Lib.hid (new_any l A cap w ⟨A, cap, rfl, hc1, hc2⟩ hl h0)
  clear hc1 hc2 h0
  generalize l.length = n at *
  go_enter Tryz.func17, Tryz.ntmps17
  go_wp2_with fail
  refine HN.out.mono ?_
  rintro e w1 ⟨b, rfl, h1, h2, h3⟩
  have H1 := Lib.hid (And.intro h1 (And.intro h2 h3))
  clear h1 h2 h3
  go_wp2_with fail
  go_ret
  obtain ⟨h1, h2, h3⟩ := H1.out
  refine ⟨w1.heap.size, rfl, .inr ⟨w1.heap.size, b, rfl, by rw [World.size_alloc]; omega, (Blk.made w1 56 _).cell 0, ?_⟩, h3.alloc h3.size _⟩
  exact (h2.read.below ((Below.refl _ w1).alloc (Nat.le_refl _) _) (Nat.le_refl _)).mono (by rw [World.size_alloc]; omega)

/-- Is a command small. -/
def fewC (tg mb : ByteArray) (n nd : Nat) : Bool := decide (tg.size ≤ 100) && (decide (mb.size ≤ 300) && (decide (n ≤ 60) && decide (nd ≤ 500)))
theorem load_two {w : World} {g : Nat} {a0 a1 : Value} (h : Blk w g 24 #[a0, a1]) : (loadVar 24 ⟨g, 0, none⟩).run Tryz.prog w = .ok (.agg #[a0, a1]) w := by
  have c0 : w.cell? ⟨g, 0, none⟩ = some a0 := h.cell 0
  have c1 : w.cell? ⟨g, 1, none⟩ = some a1 := h.cell 1
  simp [go_sem, c0, c1]
theorem results_two1 {fn : Func} {p : Tmp} (hr : fn.results = #[.cell p 24]) {tmps : Array Value} {w : World} {g : Nat} {a0 a1 : Value} (hp : tmps.getD p undef = .pointer (some ⟨g, 0, none⟩)) (h : Blk w g 24 #[a0, a1]) :
    (results fn tmps).run Tryz.prog w = .ok (.agg #[a0, a1]) w := by
  have e : (results fn tmps).run Tryz.prog w = ((asAddr (tmps.getD p undef)).run Tryz.prog w).andThen fun a w₁ => (loadVar 24 a).run Tryz.prog w₁ := by
    simp only [results, hr]
    simp [Sem.run_bind, Result.andThen]
  rw [e, hp, show (asAddr (.pointer (some ⟨g, 0, none⟩))).run Tryz.prog w = .ok ⟨g, 0, none⟩ w from rfl]
  simp only [Result.andThen]
  rw [load_two h]
/-- The layout of two numbers. -/
def lSt (a : Nat) : Nat := 1 + a % 16
def lSs (b : Nat) : Nat := b % 17
set_option maxRecDepth 100000 in
set_option maxHeartbeats 1600000 in
theorem layout_any (a b : Nat) (ha : a < 256) (hb : b < 256) (w : World) :
    Calls Tryz.prog 4 #[.agg #[.int .u8 a, .int .u8 b]] w fun e w' => e = .returned (.agg #[.int .i64 (lSt a : Nat), .int .i64 (lSs b : Nat)]) ∧ Below w.heap.size w w' := by
  have hw1 : IntKind.i64.wrap (a : Int) = a := by simp [IntKind.wrap, IntKind.bits, IntKind.signed]; omega
  have hw2 : IntKind.i64.wrap (b : Int) = b := by simp [IntKind.wrap, IntKind.bits, IntKind.signed]; omega
  obtain ⟨p, hp⟩ : ∃ p, a % 16 = p := ⟨_, rfl⟩
  obtain ⟨q, hq⟩ : ∃ q, b % 17 = q := ⟨_, rfl⟩
  have ht1 : (a : Int).tmod 16 = (p : Int) := by rw [Int.tmod_eq_emod_of_nonneg (by omega)]; omega
  have ht2 : (b : Int).tmod 17 = (q : Int) := by rw [Int.tmod_eq_emod_of_nonneg (by omega)]; omega
  have hpb : p < 16 := by omega
  have hqb : q < 17 := by omega
  have hw3 : IntKind.i64.wrap (p : Int) = p := by simp [IntKind.wrap, IntKind.bits, IntKind.signed]; omega
  have hw4 : IntKind.i64.wrap (q : Int) = q := by simp [IntKind.wrap, IntKind.bits, IntKind.signed]; omega
  have hw5 : IntKind.i64.wrap (1 + (p : Int)) = 1 + (p : Int) := by simp [IntKind.wrap, IntKind.bits, IntKind.signed]; omega
  have he1 : ((lSt a : Nat) : Int) = 1 + (p : Int) := by unfold lSt; rw [hp]; omega
  have he2 : ((lSs b : Nat) : Int) = (q : Int) := by unfold lSs; rw [hq]
  rw [he1, he2]
  clear hp hq ha hb he1 he2
  go_enter Tryz.func4, Tryz.ntmps4
  go_wp2_with fail
  have hk := Blk.made (w.alloc (.cells #[.int .u8 a, .int .u8 b] 22)) 24 #[.int .i64 (1 + (p : Int)), .int .i64 (q : Int)]
  rw [World.size_alloc] at hk
  refine bodyPost_ret (v := .agg #[.int .i64 (1 + (p : Int)), .int .i64 (q : Int)]) (results_two1 (by rfl) (by rfl) hk) rfl ⟨rfl, ((Below.refl _ w).alloc (Nat.le_refl _) _).alloc (by rw [World.size_alloc]; omega) _⟩

theorem ex_srt0 : srtU [] = [] := by decide
theorem rd_one6 (w : World) (T : TypeId) : Rd1 (w.alloc (.cells #[.int .i64 6] T)) (w.alloc (.cells #[.int .i64 6] T)).heap.size (.slice (some ⟨w.heap.size, 0, none⟩) 1 1) (([6] : List Int).map (Value.int .i64)) :=
  ⟨_, _, rfl, Nat.le_refl _, fun _ => ⟨_, _, rfl, by rw [World.size_alloc]; omega, fun j u hj => by
    have h := Blk.made w T #[.int .i64 6]
    cases j with
    | zero => simp at hj; subst hj; exact h.cell 0
    | succ j => simp at hj⟩⟩
def exR (p : Option Addr) : Rq := ⟨4, 2, 1, p, ⟨#[97]⟩, 1, ⟨#[]⟩, none, 0, 0, 0, 0, false, 0, none, 0, 0⟩
theorem ex_for (p : Option Addr) (ib mk : Bool) : forL 4 2 1 (Rq.vw (exR p) []) 1 ib [] mk = if p.isSome then [6] else [] := by
  unfold forL planL ownL Rq.vw exR
  cases p <;> simp
theorem exfor_any (p : Option Addr) (W : World) (hV : VwR W W.heap.size p []) :
    Calls Tryz.prog 16 #[.agg #[.int .i64 4, .int .i64 2], .int .i64 1, .pointer p, .agg #[.string ⟨#[97]⟩, .int .i64 1, .string ⟨#[]⟩, .slice none 0 0, .int .i64 0, .int .i64 0, .bool false, .int .u8 0, .slice none 0 0]] W fun e w' =>
      ∃ v, e = .returned v ∧ Buf w' W.heap.size 1 v (if p.isSome then [6] else [] : List Int).length ((if p.isSome then [6] else [] : List Int).map (Value.int .i64)) ∧ Below W.heap.size W w' := by
  have h := for_any (exR p) 4 2 rfl rfl (by decide) (by decide) (by decide) [] [] (by show (⟨#[]⟩ : ByteArray).size ≤ maxLen; decide) W ⟨hV, ⟨none, 0, rfl, Nat.le_refl _, fun h => absurd h (by simp)⟩, by decide, by decide, fun x hx => by cases hx⟩
  have e : forL 4 2 (exR p).id (Rq.vw (exR p) []) (exR p).kind (inboxB (exR p).mb) (([] : List RB).map RB.rng) (marksB (exR p).items) = if p.isSome then [6] else [] := ex_for p _ _
  rw [e] at h
  exact h
set_option maxRecDepth 100000 in
set_option maxHeartbeats 6400000 in
theorem alive_any (w : World) : Calls Tryz.prog 11 #[] w fun e w' => e = .returned (.bool true) ∧ Below w.heap.size w w' := by
  have HQ := Lib.hid (queue_yes 4 2 1 (by decide) (by decide) (by decide))
  have hb0 : Below w.heap.size w (w.alloc (.cells #[.int .i64 4, .int .i64 2] 24)) := (Below.refl _ w).alloc (Nat.le_refl _) _
  have B_0 := Lib.hid hb0
  have K_0 := Lib.hid (Blk.made w 24 #[.int .i64 4, .int .i64 2])
  have HN := Lib.hid (fun W => (ex_srt0 ▸ vnew_some [] (.slice none 0 0) W ⟨none, 0, rfl, Nat.le_refl _, fun h => absurd h (by simp)⟩ (by decide) (by decide) : Calls Tryz.prog 17 #[.slice none 0 0] W fun e w' => ∃ vb, e = .returned (.pointer (some ⟨vb, 0, none⟩)) ∧ VwR w' w'.heap.size (some ⟨vb, 0, none⟩) [] ∧ Below W.heap.size W w'))
  have HF := Lib.hid (fun vb W (hV : VwR W W.heap.size (some ⟨vb, 0, none⟩) []) => exfor_any (some ⟨vb, 0, none⟩) W hV)
  have HG := Lib.hid (fun W => exfor_any none W (.inl ⟨rfl, rfl⟩))
  clear hb0
  go_enter Tryz.func11, Tryz.ntmps11
  go_wp2_with fail
  refine (HQ.out _).mono ?_
  rintro e w1 ⟨rfl, hb1⟩
  have B_1 := Lib.hid (B_0.out.trans (hb1.mono B_0.out.size))
  have K_1 := Lib.hid (K_0.out.below hb1 K_0.out.lt)
  clear B_0 K_0 hb1
  go_upto_region 3 with fail
  refine region_anyC (fun W => Blk W w.heap.size 24 #[.int .i64 4, .int .i64 2]) (by kernel_rfl) ?_
  have hbd : Below w1.heap.size w1 w1.drew := Below.drew (Below.refl _ _)
  have B_2 := Lib.hid (B_1.out.trans (hbd.mono B_1.out.size))
  have K_2 := Lib.hid (K_1.out.below hbd K_1.out.lt)
  clear B_1 K_1 hbd
  refine anyC_take (i := 0) (v := ?_) rfl (by kernel_rfl) (by kernel_rfl) (by kernel_rfl) (fun _ _ _ h => h) (K_2.out) (Or.inl ⟨by rfl, ?_⟩) ?_
  rotate_left
  · intro W hW
    go_simp
    try with_reducible rfl
  try simp only [List.getElem_toArray, List.getElem_cons_zero, List.getElem_cons_succ, Act.put, List.setIfInBounds_toArray, List.set_cons_zero, List.set_cons_succ]
  refine anyC_take (i := 1) (v := ?_) rfl (by kernel_rfl) (by kernel_rfl) (by kernel_rfl) (fun _ _ _ h => h) (K_2.out) (Or.inl ⟨by rfl, ?_⟩) ?_
  rotate_left
  · intro W hW
    go_simp
    try with_reducible rfl
  try simp only [List.getElem_toArray, List.getElem_cons_zero, List.getElem_cons_succ, Act.put, List.setIfInBounds_toArray, List.set_cons_zero, List.set_cons_succ]
  refine anyC_take (i := 2) (v := ?_) rfl (by kernel_rfl) (by kernel_rfl) (by kernel_rfl) (fun _ _ _ h => h) (K_2.out) (Or.inl ⟨by rfl, ?_⟩) ?_
  rotate_left
  · intro W hW
    go_simp
    try with_reducible rfl
  try simp only [List.getElem_toArray, List.getElem_cons_zero, List.getElem_cons_succ, Act.put, List.setIfInBounds_toArray, List.set_cons_zero, List.set_cons_succ]
  refine anyC_take (i := 3) (v := ?_) rfl (by kernel_rfl) (by kernel_rfl) (by kernel_rfl) (fun _ _ _ h => h) (K_2.out) (Or.inl ⟨by rfl, ?_⟩) ?_
  rotate_left
  · intro W hW
    go_simp
    try with_reducible rfl
  try simp only [List.getElem_toArray, List.getElem_cons_zero, List.getElem_cons_succ, Act.put, List.setIfInBounds_toArray, List.set_cons_zero, List.set_cons_succ]
  refine anyC_take (i := 4) (v := ?_) rfl (by kernel_rfl) (by kernel_rfl) (by kernel_rfl) (fun _ _ _ h => h) (K_2.out) (Or.inl ⟨by rfl, ?_⟩) ?_
  rotate_left
  · intro W hW
    go_simp
    try with_reducible rfl
  try simp only [List.getElem_toArray, List.getElem_cons_zero, List.getElem_cons_succ, Act.put, List.setIfInBounds_toArray, List.set_cons_zero, List.set_cons_succ]
  refine anyC_take (i := 5) (v := ?_) rfl (by kernel_rfl) (by kernel_rfl) (by kernel_rfl) (fun _ _ _ h => h) (K_2.out) (Or.inl ⟨by rfl, ?_⟩) ?_
  rotate_left
  · intro W hW
    go_simp
    try with_reducible rfl
  try simp only [List.getElem_toArray, List.getElem_cons_zero, List.getElem_cons_succ, Act.put, List.setIfInBounds_toArray, List.set_cons_zero, List.set_cons_succ]
  refine anyC_take (i := 6) (v := ?_) rfl (by kernel_rfl) (by kernel_rfl) (by kernel_rfl) (fun _ _ _ h => h) (K_2.out) (Or.inl ⟨by rfl, ?_⟩) ?_
  rotate_left
  · intro W hW
    have x0 : W.cell? ⟨w.heap.size, 0, none⟩ = some (.int .i64 4) := hW.cell 0
    have x1 : W.cell? ⟨w.heap.size, 1, none⟩ = some (.int .i64 2) := hW.cell 1
    go_simp
    try with_reducible rfl
  try simp only [List.getElem_toArray, List.getElem_cons_zero, List.getElem_cons_succ, Act.put, List.setIfInBounds_toArray, List.set_cons_zero, List.set_cons_succ]
  refine anyC_take (i := 8) (v := ?_) rfl (by kernel_rfl) (by kernel_rfl) (by kernel_rfl) (fun _ _ _ h => h) (K_2.out) (Or.inl ⟨by rfl, ?_⟩) ?_
  rotate_left
  · intro W hW
    go_simp
    try with_reducible rfl
  try simp only [List.getElem_toArray, List.getElem_cons_zero, List.getElem_cons_succ, Act.put, List.setIfInBounds_toArray, List.set_cons_zero, List.set_cons_succ]
  refine anyC_two (i := 7) (k := 10) (by kernel_rfl) (fun K hK => ⟨_, rfl, by kernel_rfl, ?_⟩) (fun K hK => ⟨_, rfl, by kernel_rfl, ?_⟩)
  · go_simp
    refine (HN.out _).mono ?_
    rintro e w2 ⟨vb, rfl, hv, hbn⟩
    have B_3 := Lib.hid (B_2.out.trans (hbn.mono B_2.out.size))
    have K_3 := Lib.hid (K_2.out.below hbn K_2.out.lt)
    have V_3 := Lib.hid (hv)
    clear B_2 K_2 hbn hv
    refine hK _ _ (K_3.out) ?_
    clear hK K
    try simp only [List.getElem_toArray, List.getElem_cons_zero, List.getElem_cons_succ, Act.put, List.setIfInBounds_toArray, List.set_cons_zero, List.set_cons_succ]
    refine anyC_two (i := 9) (k := 10) (by kernel_rfl) (fun K hK => ⟨_, rfl, by kernel_rfl, ?_⟩) (fun K hK => ⟨_, rfl, by kernel_rfl, ?_⟩)
    · go_simp
      refine (HF.out vb _ V_3.out).mono ?_
      rintro e w3 ⟨vl, rfl, hbuf, hbf⟩
      have B_4 := Lib.hid (B_3.out.trans (hbf.mono B_3.out.size))
      have K_4 := Lib.hid (K_3.out.below hbf K_3.out.lt)
      have V_4 := Lib.hid ((V_3.out.below hbf (Nat.le_refl _)).mono hbf.size)
      have R_4 := Lib.hid ((Rd1.of_buf (n := 1) hbuf : Rd1 w3 w3.heap.size vl (([6] : List Int).map (Value.int .i64))))
      clear B_3 K_3 V_3 hbf hbuf
      refine hK _ _ (K_4.out) ?_
      clear hK K
      try simp only [List.getElem_toArray, List.getElem_cons_zero, List.getElem_cons_succ, Act.put, List.setIfInBounds_toArray, List.set_cons_zero, List.set_cons_succ]
      refine anyC_one (i := 10) (by kernel_rfl) (fun K hK => ⟨_, rfl, by kernel_rfl, ?_⟩)
      go_simp
      have hbb : Below w3.heap.size w3 (w3.alloc (.cells #[.int .i64 6] 3)) := (Below.refl _ _).alloc (Nat.le_refl _) _
      have B_5 := Lib.hid (B_4.out.trans (hbb.mono B_4.out.size))
      have K_5 := Lib.hid (K_4.out.below hbb K_4.out.lt)
      have V_5 := Lib.hid ((V_4.out.below hbb (Nat.le_refl _)).mono hbb.size)
      have R_5 := Lib.hid ((R_4.out.below hbb (Nat.le_refl _)).mono hbb.size)
      have S_5 := Lib.hid (rd_one6 w3 3)
      clear B_4 K_4 V_4 R_4 hbb
      refine hK _ _ (K_5.out) ?_
      clear hK K
      try simp only [List.getElem_toArray, List.getElem_cons_zero, List.getElem_cons_succ, Act.put, List.setIfInBounds_toArray, List.set_cons_zero, List.set_cons_succ]
      refine anyC_one (i := 11) (by kernel_rfl) (fun K hK => ⟨_, rfl, by kernel_rfl, ?_⟩)
      go_simp
      refine (eq_i64 (xs := [6]) (ys := [6]) R_5.out S_5.out (by decide) (by decide)).mono ?_
      rintro e w9 ⟨rfl, q9, rfl⟩
      rw [decide_eq_true (show ([6] : List Int) = [6] from rfl)]
      have hb9 : Below (w3.alloc (.cells #[.int .i64 6] 3)).heap.size (w3.alloc (.cells #[.int .i64 6] 3)) ((w3.alloc (.cells #[.int .i64 6] 3)).drewN q9) := below_drewN _ _
      have B_6 := Lib.hid (B_5.out.trans (hb9.mono B_5.out.size))
      have K_6 := Lib.hid (K_5.out.below hb9 K_5.out.lt)
      have V_6 := Lib.hid ((V_5.out.below hb9 (Nat.le_refl _)).mono hb9.size)
      have R_6 := Lib.hid ((R_5.out.below hb9 (Nat.le_refl _)).mono hb9.size)
      have S_6 := Lib.hid ((S_5.out.below hb9 (Nat.le_refl _)).mono hb9.size)
      clear B_5 K_5 V_5 R_5 S_5 hb9
      refine hK _ _ (K_6.out) ?_
      clear hK K
      try simp only [List.getElem_toArray, List.getElem_cons_zero, List.getElem_cons_succ, Act.put, List.setIfInBounds_toArray, List.set_cons_zero, List.set_cons_succ]
      refine anyC_take (i := 12) (v := ?_) rfl (by kernel_rfl) (by kernel_rfl) (by kernel_rfl) (fun _ _ _ h => h) (K_6.out) (Or.inl ⟨by rfl, ?_⟩) ?_
      rotate_left
      · intro W hW
        go_simp
        try with_reducible rfl
      try simp only [List.getElem_toArray, List.getElem_cons_zero, List.getElem_cons_succ, Act.put, List.setIfInBounds_toArray, List.set_cons_zero, List.set_cons_succ]
      refine anyC_take (i := 13) (v := ?_) rfl (by kernel_rfl) (by kernel_rfl) (by kernel_rfl) (fun _ _ _ h => h) (K_6.out) (Or.inl ⟨by rfl, ?_⟩) ?_
      rotate_left
      · intro W hW
        go_simp
        try with_reducible rfl
      try simp only [List.getElem_toArray, List.getElem_cons_zero, List.getElem_cons_succ, Act.put, List.setIfInBounds_toArray, List.set_cons_zero, List.set_cons_succ]
      refine anyC_take (i := 14) (v := ?_) rfl (by kernel_rfl) (by kernel_rfl) (by kernel_rfl) (fun _ _ _ h => h) (K_6.out) (Or.inl ⟨by rfl, ?_⟩) ?_
      rotate_left
      · intro W hW
        have x0 : W.cell? ⟨w.heap.size, 0, none⟩ = some (.int .i64 4) := hW.cell 0
        have x1 : W.cell? ⟨w.heap.size, 1, none⟩ = some (.int .i64 2) := hW.cell 1
        go_simp
        try with_reducible rfl
      try simp only [List.getElem_toArray, List.getElem_cons_zero, List.getElem_cons_succ, Act.put, List.setIfInBounds_toArray, List.set_cons_zero, List.set_cons_succ]
      refine anyC_take (i := 15) (v := ?_) rfl (by kernel_rfl) (by kernel_rfl) (by kernel_rfl) (fun _ _ _ h => h) (K_6.out) (Or.inl ⟨by rfl, ?_⟩) ?_
      rotate_left
      · intro W hW
        go_simp
        try with_reducible rfl
      try simp only [List.getElem_toArray, List.getElem_cons_zero, List.getElem_cons_succ, Act.put, List.setIfInBounds_toArray, List.set_cons_zero, List.set_cons_succ]
      refine anyC_one (i := 16) (by kernel_rfl) (fun K hK => ⟨_, rfl, by kernel_rfl, ?_⟩)
      go_simp
      refine (HG.out _).mono ?_
      rintro e w10 ⟨v10, rfl, hbuf10, hb10⟩
      obtain ⟨A10, c10, rfl, -⟩ := buf_read hbuf10
      have B_7 := Lib.hid (B_6.out.trans (hb10.mono B_6.out.size))
      have K_7 := Lib.hid (K_6.out.below hb10 K_6.out.lt)
      have V_7 := Lib.hid ((V_6.out.below hb10 (Nat.le_refl _)).mono hb10.size)
      have R_7 := Lib.hid ((R_6.out.below hb10 (Nat.le_refl _)).mono hb10.size)
      have S_7 := Lib.hid ((S_6.out.below hb10 (Nat.le_refl _)).mono hb10.size)
      clear B_6 K_6 V_6 R_6 S_6 hb10 hbuf10
      refine hK _ _ (K_7.out) ?_
      clear hK K
      try simp only [List.getElem_toArray, List.getElem_cons_zero, List.getElem_cons_succ, Act.put, List.setIfInBounds_toArray, List.set_cons_zero, List.set_cons_succ]
      refine anyC_take (i := 17) (v := ?_) rfl (by kernel_rfl) (by kernel_rfl) (by kernel_rfl) (fun _ _ _ h => h) (K_7.out) (Or.inl ⟨by rfl, ?_⟩) ?_
      rotate_left
      · intro W hW
        go_simp
        try with_reducible rfl
      try simp only [List.getElem_toArray, List.getElem_cons_zero, List.getElem_cons_succ, Act.put, List.setIfInBounds_toArray, List.set_cons_zero, List.set_cons_succ]
      refine anyC_take (i := 18) (v := ?_) rfl (by kernel_rfl) (by kernel_rfl) (by kernel_rfl) (fun _ _ _ h => h) (K_7.out) (Or.inl ⟨by rfl, ?_⟩) ?_
      rotate_left
      · intro W hW
        go_simp
        try with_reducible rfl
      try simp only [List.getElem_toArray, List.getElem_cons_zero, List.getElem_cons_succ, Act.put, List.setIfInBounds_toArray, List.set_cons_zero, List.set_cons_succ]
      refine anyC_take (i := 19) (v := ?_) rfl (by kernel_rfl) (by kernel_rfl) (by kernel_rfl) (fun _ _ _ h => h) (K_7.out) (Or.inl ⟨by rfl, ?_⟩) ?_
      rotate_left
      · intro W hW
        go_simp
        try with_reducible rfl
      try simp only [List.getElem_toArray, List.getElem_cons_zero, List.getElem_cons_succ, Act.put, List.setIfInBounds_toArray, List.set_cons_zero, List.set_cons_succ]
      refine anyC_take (i := 20) (v := ?_) rfl (by kernel_rfl) (by kernel_rfl) (by kernel_rfl) (fun _ _ _ h => h) (K_7.out) (Or.inl ⟨by rfl, ?_⟩) ?_
      rotate_left
      · intro W hW
        go_simp
        try with_reducible rfl
      try simp only [List.getElem_toArray, List.getElem_cons_zero, List.getElem_cons_succ, Act.put, List.setIfInBounds_toArray, List.set_cons_zero, List.set_cons_succ]
      refine anyC_done (by kernel_rfl) ?_ _
      go_wp2_with fail
      go_ret
      exact ⟨rfl, B_7.out⟩
    · go_simp
      have hbb : Below w2.heap.size w2 (w2.alloc (.cells #[.int .i64 6] 3)) := (Below.refl _ _).alloc (Nat.le_refl _) _
      have B_4 := Lib.hid (B_3.out.trans (hbb.mono B_3.out.size))
      have K_4 := Lib.hid (K_3.out.below hbb K_3.out.lt)
      have V_4 := Lib.hid ((V_3.out.below hbb (Nat.le_refl _)).mono hbb.size)
      have S_4 := Lib.hid (rd_one6 w2 3)
      clear B_3 K_3 V_3 hbb
      refine hK _ _ (K_4.out) ?_
      clear hK K
      try simp only [List.getElem_toArray, List.getElem_cons_zero, List.getElem_cons_succ, Act.put, List.setIfInBounds_toArray, List.set_cons_zero, List.set_cons_succ]
      refine anyC_one (i := 9) (by kernel_rfl) (fun K hK => ⟨_, rfl, by kernel_rfl, ?_⟩)
      go_simp
      refine (HF.out vb _ V_4.out).mono ?_
      rintro e w4 ⟨vl, rfl, hbuf, hbf⟩
      have B_5 := Lib.hid (B_4.out.trans (hbf.mono B_4.out.size))
      have K_5 := Lib.hid (K_4.out.below hbf K_4.out.lt)
      have V_5 := Lib.hid ((V_4.out.below hbf (Nat.le_refl _)).mono hbf.size)
      have S_5 := Lib.hid ((S_4.out.below hbf (Nat.le_refl _)).mono hbf.size)
      have R_5 := Lib.hid ((Rd1.of_buf (n := 1) hbuf : Rd1 w4 w4.heap.size vl (([6] : List Int).map (Value.int .i64))))
      clear B_4 K_4 V_4 S_4 hbf hbuf
      refine hK _ _ (K_5.out) ?_
      clear hK K
      try simp only [List.getElem_toArray, List.getElem_cons_zero, List.getElem_cons_succ, Act.put, List.setIfInBounds_toArray, List.set_cons_zero, List.set_cons_succ]
      refine anyC_one (i := 11) (by kernel_rfl) (fun K hK => ⟨_, rfl, by kernel_rfl, ?_⟩)
      go_simp
      refine (eq_i64 (xs := [6]) (ys := [6]) R_5.out S_5.out (by decide) (by decide)).mono ?_
      rintro e w9 ⟨rfl, q9, rfl⟩
      rw [decide_eq_true (show ([6] : List Int) = [6] from rfl)]
      have hb9 : Below w4.heap.size w4 (w4.drewN q9) := below_drewN _ _
      have B_6 := Lib.hid (B_5.out.trans (hb9.mono B_5.out.size))
      have K_6 := Lib.hid (K_5.out.below hb9 K_5.out.lt)
      have V_6 := Lib.hid ((V_5.out.below hb9 (Nat.le_refl _)).mono hb9.size)
      have S_6 := Lib.hid ((S_5.out.below hb9 (Nat.le_refl _)).mono hb9.size)
      have R_6 := Lib.hid ((R_5.out.below hb9 (Nat.le_refl _)).mono hb9.size)
      clear B_5 K_5 V_5 S_5 R_5 hb9
      refine hK _ _ (K_6.out) ?_
      clear hK K
      try simp only [List.getElem_toArray, List.getElem_cons_zero, List.getElem_cons_succ, Act.put, List.setIfInBounds_toArray, List.set_cons_zero, List.set_cons_succ]
      refine anyC_take (i := 12) (v := ?_) rfl (by kernel_rfl) (by kernel_rfl) (by kernel_rfl) (fun _ _ _ h => h) (K_6.out) (Or.inl ⟨by rfl, ?_⟩) ?_
      rotate_left
      · intro W hW
        go_simp
        try with_reducible rfl
      try simp only [List.getElem_toArray, List.getElem_cons_zero, List.getElem_cons_succ, Act.put, List.setIfInBounds_toArray, List.set_cons_zero, List.set_cons_succ]
      refine anyC_take (i := 13) (v := ?_) rfl (by kernel_rfl) (by kernel_rfl) (by kernel_rfl) (fun _ _ _ h => h) (K_6.out) (Or.inl ⟨by rfl, ?_⟩) ?_
      rotate_left
      · intro W hW
        go_simp
        try with_reducible rfl
      try simp only [List.getElem_toArray, List.getElem_cons_zero, List.getElem_cons_succ, Act.put, List.setIfInBounds_toArray, List.set_cons_zero, List.set_cons_succ]
      refine anyC_take (i := 14) (v := ?_) rfl (by kernel_rfl) (by kernel_rfl) (by kernel_rfl) (fun _ _ _ h => h) (K_6.out) (Or.inl ⟨by rfl, ?_⟩) ?_
      rotate_left
      · intro W hW
        have x0 : W.cell? ⟨w.heap.size, 0, none⟩ = some (.int .i64 4) := hW.cell 0
        have x1 : W.cell? ⟨w.heap.size, 1, none⟩ = some (.int .i64 2) := hW.cell 1
        go_simp
        try with_reducible rfl
      try simp only [List.getElem_toArray, List.getElem_cons_zero, List.getElem_cons_succ, Act.put, List.setIfInBounds_toArray, List.set_cons_zero, List.set_cons_succ]
      refine anyC_take (i := 15) (v := ?_) rfl (by kernel_rfl) (by kernel_rfl) (by kernel_rfl) (fun _ _ _ h => h) (K_6.out) (Or.inl ⟨by rfl, ?_⟩) ?_
      rotate_left
      · intro W hW
        go_simp
        try with_reducible rfl
      try simp only [List.getElem_toArray, List.getElem_cons_zero, List.getElem_cons_succ, Act.put, List.setIfInBounds_toArray, List.set_cons_zero, List.set_cons_succ]
      refine anyC_one (i := 16) (by kernel_rfl) (fun K hK => ⟨_, rfl, by kernel_rfl, ?_⟩)
      go_simp
      refine (HG.out _).mono ?_
      rintro e w10 ⟨v10, rfl, hbuf10, hb10⟩
      obtain ⟨A10, c10, rfl, -⟩ := buf_read hbuf10
      have B_7 := Lib.hid (B_6.out.trans (hb10.mono B_6.out.size))
      have K_7 := Lib.hid (K_6.out.below hb10 K_6.out.lt)
      have V_7 := Lib.hid ((V_6.out.below hb10 (Nat.le_refl _)).mono hb10.size)
      have S_7 := Lib.hid ((S_6.out.below hb10 (Nat.le_refl _)).mono hb10.size)
      have R_7 := Lib.hid ((R_6.out.below hb10 (Nat.le_refl _)).mono hb10.size)
      clear B_6 K_6 V_6 S_6 R_6 hb10 hbuf10
      refine hK _ _ (K_7.out) ?_
      clear hK K
      try simp only [List.getElem_toArray, List.getElem_cons_zero, List.getElem_cons_succ, Act.put, List.setIfInBounds_toArray, List.set_cons_zero, List.set_cons_succ]
      refine anyC_take (i := 17) (v := ?_) rfl (by kernel_rfl) (by kernel_rfl) (by kernel_rfl) (fun _ _ _ h => h) (K_7.out) (Or.inl ⟨by rfl, ?_⟩) ?_
      rotate_left
      · intro W hW
        go_simp
        try with_reducible rfl
      try simp only [List.getElem_toArray, List.getElem_cons_zero, List.getElem_cons_succ, Act.put, List.setIfInBounds_toArray, List.set_cons_zero, List.set_cons_succ]
      refine anyC_take (i := 18) (v := ?_) rfl (by kernel_rfl) (by kernel_rfl) (by kernel_rfl) (fun _ _ _ h => h) (K_7.out) (Or.inl ⟨by rfl, ?_⟩) ?_
      rotate_left
      · intro W hW
        go_simp
        try with_reducible rfl
      try simp only [List.getElem_toArray, List.getElem_cons_zero, List.getElem_cons_succ, Act.put, List.setIfInBounds_toArray, List.set_cons_zero, List.set_cons_succ]
      refine anyC_take (i := 19) (v := ?_) rfl (by kernel_rfl) (by kernel_rfl) (by kernel_rfl) (fun _ _ _ h => h) (K_7.out) (Or.inl ⟨by rfl, ?_⟩) ?_
      rotate_left
      · intro W hW
        go_simp
        try with_reducible rfl
      try simp only [List.getElem_toArray, List.getElem_cons_zero, List.getElem_cons_succ, Act.put, List.setIfInBounds_toArray, List.set_cons_zero, List.set_cons_succ]
      refine anyC_take (i := 20) (v := ?_) rfl (by kernel_rfl) (by kernel_rfl) (by kernel_rfl) (fun _ _ _ h => h) (K_7.out) (Or.inl ⟨by rfl, ?_⟩) ?_
      rotate_left
      · intro W hW
        go_simp
        try with_reducible rfl
      try simp only [List.getElem_toArray, List.getElem_cons_zero, List.getElem_cons_succ, Act.put, List.setIfInBounds_toArray, List.set_cons_zero, List.set_cons_succ]
      refine anyC_done (by kernel_rfl) ?_ _
      go_wp2_with fail
      go_ret
      exact ⟨rfl, B_7.out⟩
  · go_simp
    have hbb : Below w1.drew.heap.size w1.drew (w1.drew.alloc (.cells #[.int .i64 6] 3)) := (Below.refl _ _).alloc (Nat.le_refl _) _
    have B_3 := Lib.hid (B_2.out.trans (hbb.mono B_2.out.size))
    have K_3 := Lib.hid (K_2.out.below hbb K_2.out.lt)
    have S_3 := Lib.hid (rd_one6 w1.drew 3)
    clear B_2 K_2 hbb
    refine hK _ _ (K_3.out) ?_
    clear hK K
    try simp only [List.getElem_toArray, List.getElem_cons_zero, List.getElem_cons_succ, Act.put, List.setIfInBounds_toArray, List.set_cons_zero, List.set_cons_succ]
    refine anyC_one (i := 7) (by kernel_rfl) (fun K hK => ⟨_, rfl, by kernel_rfl, ?_⟩)
    go_simp
    refine (HN.out _).mono ?_
    rintro e w3 ⟨vb, rfl, hv, hbn⟩
    have B_4 := Lib.hid (B_3.out.trans (hbn.mono B_3.out.size))
    have K_4 := Lib.hid (K_3.out.below hbn K_3.out.lt)
    have S_4 := Lib.hid ((S_3.out.below hbn (Nat.le_refl _)).mono hbn.size)
    have V_4 := Lib.hid (hv)
    clear B_3 K_3 S_3 hbn hv
    refine hK _ _ (K_4.out) ?_
    clear hK K
    try simp only [List.getElem_toArray, List.getElem_cons_zero, List.getElem_cons_succ, Act.put, List.setIfInBounds_toArray, List.set_cons_zero, List.set_cons_succ]
    refine anyC_one (i := 9) (by kernel_rfl) (fun K hK => ⟨_, rfl, by kernel_rfl, ?_⟩)
    go_simp
    refine (HF.out vb _ V_4.out).mono ?_
    rintro e w4 ⟨vl, rfl, hbuf, hbf⟩
    have B_5 := Lib.hid (B_4.out.trans (hbf.mono B_4.out.size))
    have K_5 := Lib.hid (K_4.out.below hbf K_4.out.lt)
    have S_5 := Lib.hid ((S_4.out.below hbf (Nat.le_refl _)).mono hbf.size)
    have V_5 := Lib.hid ((V_4.out.below hbf (Nat.le_refl _)).mono hbf.size)
    have R_5 := Lib.hid ((Rd1.of_buf (n := 1) hbuf : Rd1 w4 w4.heap.size vl (([6] : List Int).map (Value.int .i64))))
    clear B_4 K_4 S_4 V_4 hbf hbuf
    refine hK _ _ (K_5.out) ?_
    clear hK K
    try simp only [List.getElem_toArray, List.getElem_cons_zero, List.getElem_cons_succ, Act.put, List.setIfInBounds_toArray, List.set_cons_zero, List.set_cons_succ]
    refine anyC_one (i := 11) (by kernel_rfl) (fun K hK => ⟨_, rfl, by kernel_rfl, ?_⟩)
    go_simp
    refine (eq_i64 (xs := [6]) (ys := [6]) R_5.out S_5.out (by decide) (by decide)).mono ?_
    rintro e w9 ⟨rfl, q9, rfl⟩
    rw [decide_eq_true (show ([6] : List Int) = [6] from rfl)]
    have hb9 : Below w4.heap.size w4 (w4.drewN q9) := below_drewN _ _
    have B_6 := Lib.hid (B_5.out.trans (hb9.mono B_5.out.size))
    have K_6 := Lib.hid (K_5.out.below hb9 K_5.out.lt)
    have S_6 := Lib.hid ((S_5.out.below hb9 (Nat.le_refl _)).mono hb9.size)
    have V_6 := Lib.hid ((V_5.out.below hb9 (Nat.le_refl _)).mono hb9.size)
    have R_6 := Lib.hid ((R_5.out.below hb9 (Nat.le_refl _)).mono hb9.size)
    clear B_5 K_5 S_5 V_5 R_5 hb9
    refine hK _ _ (K_6.out) ?_
    clear hK K
    try simp only [List.getElem_toArray, List.getElem_cons_zero, List.getElem_cons_succ, Act.put, List.setIfInBounds_toArray, List.set_cons_zero, List.set_cons_succ]
    refine anyC_take (i := 12) (v := ?_) rfl (by kernel_rfl) (by kernel_rfl) (by kernel_rfl) (fun _ _ _ h => h) (K_6.out) (Or.inl ⟨by rfl, ?_⟩) ?_
    rotate_left
    · intro W hW
      go_simp
      try with_reducible rfl
    try simp only [List.getElem_toArray, List.getElem_cons_zero, List.getElem_cons_succ, Act.put, List.setIfInBounds_toArray, List.set_cons_zero, List.set_cons_succ]
    refine anyC_take (i := 13) (v := ?_) rfl (by kernel_rfl) (by kernel_rfl) (by kernel_rfl) (fun _ _ _ h => h) (K_6.out) (Or.inl ⟨by rfl, ?_⟩) ?_
    rotate_left
    · intro W hW
      go_simp
      try with_reducible rfl
    try simp only [List.getElem_toArray, List.getElem_cons_zero, List.getElem_cons_succ, Act.put, List.setIfInBounds_toArray, List.set_cons_zero, List.set_cons_succ]
    refine anyC_take (i := 14) (v := ?_) rfl (by kernel_rfl) (by kernel_rfl) (by kernel_rfl) (fun _ _ _ h => h) (K_6.out) (Or.inl ⟨by rfl, ?_⟩) ?_
    rotate_left
    · intro W hW
      have x0 : W.cell? ⟨w.heap.size, 0, none⟩ = some (.int .i64 4) := hW.cell 0
      have x1 : W.cell? ⟨w.heap.size, 1, none⟩ = some (.int .i64 2) := hW.cell 1
      go_simp
      try with_reducible rfl
    try simp only [List.getElem_toArray, List.getElem_cons_zero, List.getElem_cons_succ, Act.put, List.setIfInBounds_toArray, List.set_cons_zero, List.set_cons_succ]
    refine anyC_take (i := 15) (v := ?_) rfl (by kernel_rfl) (by kernel_rfl) (by kernel_rfl) (fun _ _ _ h => h) (K_6.out) (Or.inl ⟨by rfl, ?_⟩) ?_
    rotate_left
    · intro W hW
      go_simp
      try with_reducible rfl
    try simp only [List.getElem_toArray, List.getElem_cons_zero, List.getElem_cons_succ, Act.put, List.setIfInBounds_toArray, List.set_cons_zero, List.set_cons_succ]
    refine anyC_one (i := 16) (by kernel_rfl) (fun K hK => ⟨_, rfl, by kernel_rfl, ?_⟩)
    go_simp
    refine (HG.out _).mono ?_
    rintro e w10 ⟨v10, rfl, hbuf10, hb10⟩
    obtain ⟨A10, c10, rfl, -⟩ := buf_read hbuf10
    have B_7 := Lib.hid (B_6.out.trans (hb10.mono B_6.out.size))
    have K_7 := Lib.hid (K_6.out.below hb10 K_6.out.lt)
    have S_7 := Lib.hid ((S_6.out.below hb10 (Nat.le_refl _)).mono hb10.size)
    have V_7 := Lib.hid ((V_6.out.below hb10 (Nat.le_refl _)).mono hb10.size)
    have R_7 := Lib.hid ((R_6.out.below hb10 (Nat.le_refl _)).mono hb10.size)
    clear B_6 K_6 S_6 V_6 R_6 hb10 hbuf10
    refine hK _ _ (K_7.out) ?_
    clear hK K
    try simp only [List.getElem_toArray, List.getElem_cons_zero, List.getElem_cons_succ, Act.put, List.setIfInBounds_toArray, List.set_cons_zero, List.set_cons_succ]
    refine anyC_take (i := 17) (v := ?_) rfl (by kernel_rfl) (by kernel_rfl) (by kernel_rfl) (fun _ _ _ h => h) (K_7.out) (Or.inl ⟨by rfl, ?_⟩) ?_
    rotate_left
    · intro W hW
      go_simp
      try with_reducible rfl
    try simp only [List.getElem_toArray, List.getElem_cons_zero, List.getElem_cons_succ, Act.put, List.setIfInBounds_toArray, List.set_cons_zero, List.set_cons_succ]
    refine anyC_take (i := 18) (v := ?_) rfl (by kernel_rfl) (by kernel_rfl) (by kernel_rfl) (fun _ _ _ h => h) (K_7.out) (Or.inl ⟨by rfl, ?_⟩) ?_
    rotate_left
    · intro W hW
      go_simp
      try with_reducible rfl
    try simp only [List.getElem_toArray, List.getElem_cons_zero, List.getElem_cons_succ, Act.put, List.setIfInBounds_toArray, List.set_cons_zero, List.set_cons_succ]
    refine anyC_take (i := 19) (v := ?_) rfl (by kernel_rfl) (by kernel_rfl) (by kernel_rfl) (fun _ _ _ h => h) (K_7.out) (Or.inl ⟨by rfl, ?_⟩) ?_
    rotate_left
    · intro W hW
      go_simp
      try with_reducible rfl
    try simp only [List.getElem_toArray, List.getElem_cons_zero, List.getElem_cons_succ, Act.put, List.setIfInBounds_toArray, List.set_cons_zero, List.set_cons_succ]
    refine anyC_take (i := 20) (v := ?_) rfl (by kernel_rfl) (by kernel_rfl) (by kernel_rfl) (fun _ _ _ h => h) (K_7.out) (Or.inl ⟨by rfl, ?_⟩) ?_
    rotate_left
    · intro W hW
      go_simp
      try with_reducible rfl
    try simp only [List.getElem_toArray, List.getElem_cons_zero, List.getElem_cons_succ, Act.put, List.setIfInBounds_toArray, List.set_cons_zero, List.set_cons_succ]
    refine anyC_done (by kernel_rfl) ?_ _
    go_wp2_with fail
    go_ret
    exact ⟨rfl, B_7.out⟩
end Go.Proofs.YtamholmjppgfiaaGreatDoor
