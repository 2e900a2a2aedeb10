/- Plain laws on plans: the locks of a command, by the program's way and by the reference's. The request of a plan and what adds locks to it. -/
import Derived.Test.YtamholmjppgfiaaGreatDoorStrW
import Derived.Test.YtamholmjppgfiaaGreatDoorSeqW
import Derived.Test.YtamholmjppgfiaaGreatDoorOrd
set_option linter.unusedVariables false
set_option linter.unusedSimpArgs false
namespace Go.Proofs.YtamholmjppgfiaaGreatDoor
open Go Go.Lib

/-- The numbers from a to before b. -/
def runL (a b : Int) : List Int := (List.range (b - a).toNat).map fun i : Nat => a + (i : Int)
theorem runL_len (a b : Int) : (runL a b).length = (b - a).toNat := by unfold runL; rw [List.length_map, List.length_range]
theorem runL_none {a b : Int} (h : b ≤ a) : runL a b = [] := by
  unfold runL
  rw [show (b - a).toNat = 0 by omega]; rfl
theorem runL_snoc {a b : Int} (h : a ≤ b) : runL a (b + 1) = runL a b ++ [b] := by
  unfold runL
  rw [show (b + 1 - a).toNat = (b - a).toNat + 1 by omega, List.range_succ, List.map_append]
  congr 1
  simp only [List.map_cons, List.map_nil, List.cons.injEq, and_true]
  omega
theorem runL_one (a : Int) : runL a (a + 1) = [a] := by
  rw [runL_snoc (by omega), runL_none (by omega)]; rfl
theorem runL_mem {a b x : Int} : x ∈ runL a b ↔ a ≤ x ∧ x < b := by
  unfold runL
  rw [List.mem_map]
  constructor
  · rintro ⟨i, hi, rfl⟩
    rw [List.mem_range] at hi
    omega
  · rintro ⟨h1, h2⟩
    exact ⟨(x - a).toNat, by rw [List.mem_range]; omega, by omega⟩
theorem runL_asc (a b : Int) : asc (runL a b) := by
  unfold runL asc
  rw [List.pairwise_map]
  exact List.pairwise_lt_range.imp (fun h => by omega)
theorem runL_shift (a b c : Int) : (runL a b).map (fun x => c + x) = runL (c + a) (c + b) := by
  unfold runL
  rw [List.map_map, show (c + b - (c + a)).toNat = (b - a).toNat by omega]
  refine List.map_congr_left fun i _ => ?_
  simp only [Function.comp]
  omega
theorem runL_cat {a b c : Int} (h1 : a ≤ b) (h2 : b ≤ c) : runL a b ++ runL b c = runL a c := by
  refine asc_ext (asc_append.2 ⟨runL_asc _ _, runL_asc _ _, fun x hx y hy => ?_⟩) (runL_asc _ _) fun x => ?_
  · have := runL_mem.1 hx
    have := runL_mem.1 hy
    omega
  · rw [List.mem_append, runL_mem, runL_mem, runL_mem]
    omega
/-- What the plans of the kinds add, for a view p (none: no view) and the locks of the messages. -/
def ownL (st id : Int) : List Int := [1 + st + id]
def queL (st ss : Int) : List Int := runL (1 + st) (1 + st + ss)
def evL (st ss : Int) : List Int := runL 0 (1 + st + ss)
def msgL (st : Nat) (p : Option (List Int)) (set : List Rng) (t : List Int) : List Int :=
  match p with
  | none => []
  | some vl => if validB vl.length set then (stripeL st (uidsOf vl set)).map (fun x => 1 + x) ++ t else []
def planL (st ss : Nat) (id : Int) (p : Option (List Int)) (kind : Int) (inbox : Bool) (set : List Rng) (marks : Bool) : List Int :=
  if kind = 1 ∨ kind = 2 then (if p.isSome then ownL st id else [])
  else if kind = 3 ∨ kind = 4 then (if p.isSome then evL st ss else [])
  else if kind = 5 then [0] ++ ownL st id
  else if kind = 6 then (if inbox then evL st ss else if p.isSome then ownL st id else [])
  else if kind = 7 then msgL st p set (if marks then queL st ss else ownL st id)
  else if kind = 8 then msgL st p set (queL st ss)
  else []
def forL (st ss : Nat) (id : Int) (p : Option (List Int)) (kind : Int) (inbox : Bool) (set : List Rng) (marks : Bool) : List Int :=
  if 0 ≤ id ∧ id < ss then planL st ss id p kind inbox set marks else []
/-- The reference's locks. -/
def lockL (st ss : Int) (index : Bool) (s : List Int) (own : Int) (all : Bool) : List Int :=
  (if index then [0] else []) ++ s.map (fun x => 1 + x) ++ ((runL 0 ss).filter fun i => all || decide (i = own)).map fun i => 1 + st + i
theorem lock_own {st ss id : Int} (h : 0 ≤ id ∧ id < ss) (index : Bool) (s : List Int) : lockL st ss index s id false = (if index then [0] else []) ++ s.map (fun x => 1 + x) ++ ownL st id := by
  unfold lockL ownL
  congr 1
  have e : (runL 0 ss).filter (fun i => false || decide (i = id)) = [id] := by
    refine asc_ext (List.Pairwise.filter _ (runL_asc _ _)) (by simp [asc]) fun x => ?_
    rw [List.mem_filter, runL_mem]
    simp
    omega
  rw [e]; rfl
theorem lock_all {st ss id : Int} (index : Bool) (s : List Int) : lockL st ss index s id true = (if index then [0] else []) ++ s.map (fun x => 1 + x) ++ queL st ss := by
  unfold lockL queL
  congr 1
  rw [List.filter_eq_self.2 (fun i _ => by simp), runL_shift]
  congr 1
  omega
theorem lock_every {st ss id : Int} (h1 : 0 ≤ st) (h2 : 0 ≤ ss) : lockL st ss true (runL 0 st) id true = evL st ss := by
  rw [lock_all, runL_shift]
  unfold queL evL
  rw [if_pos rfl]
  have e0 : ([0] : List Int) = runL 0 (0 + 1) := (runL_one 0).symm
  rw [e0, List.append_assoc]
  simp only [Int.add_zero, Int.zero_add]
  rw [runL_cat (by omega) (by omega), runL_cat (by omega) (by omega)]
/-- The reference's answer. -/
def refFor (st ss : Nat) (id : Int) (sel : Bool) (vl : List Int) (kind : Int) (inbox : Bool) (set : List Rng) (marks : Bool) : List Int :=
  if ¬ (0 ≤ id ∧ id < ss) then []
  else if kind = 5 then lockL st ss true [] id false
  else if kind = 6 ∧ inbox = true then lockL st ss true (runL 0 st) id true
  else if sel = false then []
  else if kind = 1 ∨ kind = 2 ∨ kind = 6 then lockL st ss false [] id false
  else if kind = 3 ∨ kind = 4 then lockL st ss true (runL 0 st) id true
  else if kind = 7 then (if validB vl.length set then lockL st ss false (stripeL st (uidsOf vl set)) id marks else [])
  else if kind = 8 then (if validB vl.length set then lockL st ss false (stripeL st (uidsOf vl set)) id true else [])
  else []
theorem refFor_eq (st ss : Nat) (id : Int) (sel : Bool) (vl : List Int) (kind : Int) (inbox : Bool) (set : List Rng) (marks : Bool) :
    refFor st ss id sel vl kind inbox set marks = forL st ss id (if sel then some vl else none) kind inbox set marks := by
  unfold refFor forL planL
  by_cases hid : 0 ≤ id ∧ id < (ss : Int)
  · rw [if_neg (by simpa using hid), if_pos hid]
    by_cases h5 : kind = 5
    · subst h5
      simp only [reduceIte, lock_own hid]
      simp
    · rw [if_neg h5]
      by_cases h6 : kind = 6
      · subst h6
        cases inbox <;> cases sel <;> simp [lock_own hid, lock_every (Int.natCast_nonneg st) (Int.natCast_nonneg ss)]
      · rw [if_neg (fun h => h6 h.1)]
        cases sel with
        | false => simp [h5, h6, msgL]
        | true =>
          simp only [reduceIte, Option.isSome_some, h5, h6, or_false, Bool.true_eq_false]
          by_cases h12 : kind = 1 ∨ kind = 2
          · rw [if_pos h12, if_pos h12, lock_own hid]; simp
          · rw [if_neg h12, if_neg h12]
            by_cases h34 : kind = 3 ∨ kind = 4
            · rw [if_pos h34, if_pos h34, lock_every (Int.natCast_nonneg st) (Int.natCast_nonneg ss)]
            · rw [if_neg h34, if_neg h34]
              by_cases h7 : kind = 7
              · rw [if_pos h7, if_pos h7]
                unfold msgL
                cases marks <;> simp [lock_own hid, lock_all]
              · rw [if_neg h7, if_neg h7]
                by_cases h8 : kind = 8
                · rw [if_pos h8, if_pos h8]
                  unfold msgL
                  simp [lock_all]
                · rw [if_neg h8, if_neg h8]
  · rw [if_pos (by simpa using hid), if_neg hid]
/-- The stripes that the reference tries. -/
theorem stripe_try {n : Nat} (hn : 0 < n) {us : List Int} (hu : ∀ u ∈ us, 0 ≤ u) : (runL 0 n).filter (fun k => decide (0 < (us.filter fun u => decide (u % (n : Int) = k)).length)) = stripeL n us := by
  obtain ⟨h1, h2⟩ := stripeL_spec n us
  refine asc_ext (List.Pairwise.filter _ (runL_asc _ _)) h1 fun x => ?_
  rw [List.mem_filter, runL_mem, h2, decide_eq_true_eq]
  constructor
  · rintro ⟨_, h⟩
    obtain ⟨u, hu⟩ := List.exists_mem_of_length_pos h
    rw [List.mem_filter, decide_eq_true_eq] at hu
    exact ⟨u, hu.1, hu.2⟩
  · rintro ⟨u, hm, rfl⟩
    refine ⟨⟨Int.emod_nonneg _ (by omega), Int.emod_lt_of_pos _ (by omega)⟩, ?_⟩
    exact List.length_pos_of_mem (List.mem_filter.2 ⟨hm, by simp⟩)
end Go.Proofs.YtamholmjppgfiaaGreatDoor

namespace Go.Proofs.YtamholmjppgfiaaGreatDoor
open Go Go.RowKit Go.Shelf Go.Lib Go.Sort

/-- A request's fields but its locks. -/
structure Rq where
  st : Int
  ss : Int
  id : Int
  pv : Option Addr
  tg : ByteArray
  kind : Int
  mb : ByteArray
  A : Option Addr
  n : Nat
  cap : Nat
  items : Int
  mode : Int
  sil : Bool
  fl : Int
  D : Option Addr
  nd : Nat
  cd : Nat
def Rq.row (r : Rq) (lv : Value) : Array Value := #[.int .i64 r.st, .int .i64 r.ss, .int .i64 r.id, .pointer r.pv, .string r.tg, .int .i64 r.kind, .string r.mb, .slice r.A r.n r.cap, .int .i64 r.items, .int .i64 r.mode, .bool r.sil, .int .u8 r.fl, .slice r.D r.nd r.cd, lv]
def Rq.cmd (r : Rq) : Array Value := #[.string r.tg, .int .i64 r.kind, .string r.mb, .slice r.A r.n r.cap, .int .i64 r.items, .int .i64 r.mode, .bool r.sil, .int .u8 r.fl, .slice r.D r.nd r.cd]
/-- The layout and the session are small. -/
def Rq.ok (r : Rq) : Prop := (0 ≤ r.st ∧ r.st ≤ 100) ∧ (0 ≤ r.ss ∧ r.ss ≤ 100) ∧ (0 ≤ r.id ∧ r.id ≤ 100)
/-- The request lies in block b, its locks from block B on. -/
def RqB (W : World) (B b : Nat) (r : Rq) (lv : Value) (L : List Int) : Prop :=
  Blk W b 51 (r.row lv) ∧ Buf W B 1 lv L.length (L.map (Value.int .i64)) ∧ lv.ownBlock ≠ some b ∧ B ≤ b
theorem RqB.below {W W' : World} {B b n : Nat} {r : Rq} {lv : Value} {L : List Int} (h : RqB W B b r lv L) (hb : Below n W W') (hn : W.heap.size ≤ n) : RqB W' B b r lv L :=
  ⟨h.1.below hb (Nat.lt_of_lt_of_le h.1.lt hn), h.2.1.below hb hn, h.2.2⟩
theorem RqB.lt {W : World} {B b : Nat} {r : Rq} {lv : Value} {L : List Int} (h : RqB W B b r lv L) : b < W.heap.size := h.1.lt
/-- The request's own cells. -/
def RqC (W : World) (b : Nat) (r : Rq) : Prop := ∃ lv, Blk W b 51 (r.row lv)
theorem RqB.c {W : World} {B b : Nat} {r : Rq} {lv : Value} {L : List Int} (h : RqB W B b r lv L) : RqC W b r := ⟨lv, h.1⟩
theorem RqC.lt {W : World} {b : Nat} {r : Rq} (h : RqC W b r) : b < W.heap.size := by
  obtain ⟨lv, h⟩ := h
  exact h.lt
theorem RqC.cells {W : World} {b : Nat} {r : Rq} (h : RqC W b r) : W.cell? ⟨b, 0, none⟩ = some (.int .i64 r.st) ∧ W.cell? ⟨b, 1, none⟩ = some (.int .i64 r.ss) ∧ W.cell? ⟨b, 2, none⟩ = some (.int .i64 r.id) ∧ W.cell? ⟨b, 3, none⟩ = some (.pointer r.pv) ∧
    W.cell? ⟨b, 6, none⟩ = some (.string r.mb) ∧ W.cell? ⟨b, 7, none⟩ = some (.slice r.A r.n r.cap) ∧ W.cell? ⟨b, 8, none⟩ = some (.int .i64 r.items) := by
  obtain ⟨lv, h⟩ := h
  exact ⟨h.cell 0, h.cell 1, h.cell 2, h.cell 3, h.cell 6, h.cell 7, h.cell 8⟩

/-- The blocks that are neither the request's nor its locks' lie still. -/
def Kpt (w w' : World) (b : Nat) (lv lv' : Value) : Prop := ∀ g, g < w.heap.size → g ≠ b → lv.ownBlock ≠ some g → w'.heap[g]? = w.heap[g]? ∧ lv'.ownBlock ≠ some g
theorem Kpt.refl (w : World) (b : Nat) (lv : Value) : Kpt w w b lv lv := fun _ _ _ h => ⟨rfl, h⟩
theorem Kpt.trans {w w1 w2 : World} {b : Nat} {lv lv1 lv2 : Value} (h : Kpt w w1 b lv lv1) (k : Kpt w1 w2 b lv1 lv2) (hs : w.heap.size ≤ w1.heap.size) : Kpt w w2 b lv lv2 := fun g hg hb ho => by
  obtain ⟨e1, o1⟩ := h g hg hb ho
  obtain ⟨e2, o2⟩ := k g (Nat.lt_of_lt_of_le hg hs) hb o1
  exact ⟨e2.trans e1, o2⟩
theorem queues_any (st ss : Int) (h : 0 ≤ st ∧ st ≤ 100) (w : World) : Calls Tryz.prog 12 #[.agg #[.int .i64 st, .int .i64 ss]] w fun e w' => e = .returned (.int .i64 (1 + st)) ∧ Below w.heap.size w w' := by
  obtain ⟨h1, h2⟩ := h
  have hw : IntKind.i64.wrap (1 + st) = 1 + st := by simp [IntKind.wrap, IntKind.bits, IntKind.signed]; omega
  go_enter Tryz.func12, Tryz.ntmps12
  go_wp2_with fail
  go_ret
  exact ⟨rfl, (Below.refl _ w).alloc (Nat.le_refl _) _⟩

set_option maxHeartbeats 1600000 in
theorem count_any (st ss : Int) (h : 0 ≤ st ∧ st ≤ 100) (h' : 0 ≤ ss ∧ ss ≤ 100) (w : World) : Calls Tryz.prog 5 #[.agg #[.int .i64 st, .int .i64 ss]] w fun e w' => e = .returned (.int .i64 (1 + st + ss)) ∧ Below w.heap.size w w' := by
  have HQ := Lib.hid (fun W => queues_any st ss h W)
  obtain ⟨h1, h2⟩ := h
  obtain ⟨h3, h4⟩ := h'
  have hw : IntKind.i64.wrap (1 + st + ss) = 1 + st + ss := by simp [IntKind.wrap, IntKind.bits, IntKind.signed]; omega
  have hb0 : Below w.heap.size w (w.alloc (.cells #[.int .i64 st, .int .i64 ss] 24)) := (Below.refl _ w).alloc (Nat.le_refl _) _
  have hblk := Blk.made w 24 #[.int .i64 st, .int .i64 ss]
  have HB := Lib.hid (And.intro hb0 hblk)
  clear hb0 hblk
  go_enter Tryz.func5, Tryz.ntmps5
  go_upto_region 1 with fail
  refine region_anyC (fun W => Blk W w.heap.size 24 #[.int .i64 st, .int .i64 ss]) (by kernel_rfl) ?_
  refine anyC_take (i := 0) (v := ?_) rfl (by kernel_rfl) (by kernel_rfl) (by kernel_rfl) (fun _ _ _ h => h) (HB.out.2) (Or.inl ⟨by rfl, ?_⟩) ?_
  rotate_left
  · intro W hW
    have c0 : W.cell? ⟨w.heap.size, 0, none⟩ = some (.int .i64 st) := hW.cell 0
    have c1 : W.cell? ⟨w.heap.size, 1, none⟩ = some (.int .i64 ss) := hW.cell 1
    go_simp
    try with_reducible rfl
  try simp only [List.getElem_toArray, List.getElem_cons_zero, List.getElem_cons_succ, Act.put, List.setIfInBounds_toArray, List.set_cons_zero, List.set_cons_succ]
  refine anyC_take (i := 2) (v := ?_) rfl (by kernel_rfl) (by kernel_rfl) (by kernel_rfl) (fun _ _ _ h => h) (HB.out.2) (Or.inl ⟨by rfl, ?_⟩) ?_
  rotate_left
  · intro W hW
    go_simp
    try with_reducible rfl
  try simp only [List.getElem_toArray, List.getElem_cons_zero, List.getElem_cons_succ, Act.put, List.setIfInBounds_toArray, List.set_cons_zero, List.set_cons_succ]
  refine anyC_take (i := 3) (v := ?_) rfl (by kernel_rfl) (by kernel_rfl) (by kernel_rfl) (fun _ _ _ h => h) (HB.out.2) (Or.inl ⟨by rfl, ?_⟩) ?_
  rotate_left
  · intro W hW
    have c0 : W.cell? ⟨w.heap.size, 0, none⟩ = some (.int .i64 st) := hW.cell 0
    have c1 : W.cell? ⟨w.heap.size, 1, none⟩ = some (.int .i64 ss) := hW.cell 1
    go_simp
    try with_reducible rfl
  try simp only [List.getElem_toArray, List.getElem_cons_zero, List.getElem_cons_succ, Act.put, List.setIfInBounds_toArray, List.set_cons_zero, List.set_cons_succ]
  refine anyC_one (i := 1) (by kernel_rfl) (fun K hK => ⟨_, rfl, by kernel_rfl, ?_⟩)
  go_simp
  refine (HQ.out _).mono ?_
  rintro e W1 ⟨rfl, hb1⟩
  have hk1 := HB.out.2.drew.below hb1 (by show w.heap.size < _; exact HB.out.2.lt)
  have hz1 : Below w.heap.size w W1 := (Below.drew HB.out.1).trans (hb1.mono HB.out.1.size)
  have HZ := Lib.hid (And.intro hk1 hz1)
  clear hk1 hz1 hb1
  refine hK _ _ (HZ.out.1) ?_
  clear hK K
  try simp only [List.getElem_toArray, List.getElem_cons_zero, List.getElem_cons_succ, Act.put, List.setIfInBounds_toArray, List.set_cons_zero, List.set_cons_succ]
  refine anyC_take (i := 4) (v := ?_) rfl (by kernel_rfl) (by kernel_rfl) (by kernel_rfl) (fun _ _ _ h => h) (HZ.out.1) (Or.inl ⟨by rfl, ?_⟩) ?_
  rotate_left
  · intro W hW
    go_simp
    try with_reducible rfl
  try simp only [List.getElem_toArray, List.getElem_cons_zero, List.getElem_cons_succ, Act.put, List.setIfInBounds_toArray, List.set_cons_zero, List.set_cons_succ]
  refine anyC_take (i := 5) (v := ?_) rfl (by kernel_rfl) (by kernel_rfl) (by kernel_rfl) (fun _ _ _ h => h) (HZ.out.1) (Or.inl ⟨by rfl, ?_⟩) ?_
  rotate_left
  · intro W hW
    go_simp
    try with_reducible rfl
  try simp only [List.getElem_toArray, List.getElem_cons_zero, List.getElem_cons_succ, Act.put, List.setIfInBounds_toArray, List.set_cons_zero, List.set_cons_succ]
  refine anyC_done (by kernel_rfl) ?_ _
  go_wp2_with fail
  go_ret
  exact ⟨rfl, HZ.out.2⟩

/-- 'r.locks = append(r.locks, k)': the run, and what it keeps. -/
theorem push_lock {B b : Nat} {r : Rq} {lv : Value} {L : List Int} {W : World} (h : RqB W B b r lv L) (x : Int) (hl : L.length ≤ 1048576) :
    ∃ v' g1 o1 n1 c1 w', v' = .slice (some ⟨g1, o1, none⟩) n1 c1 ∧ (Builtin.append_ #[36, 36] 36 #[lv, .slice (some ⟨W.heap.size, 0, none⟩) 1 1]).run Tryz.prog (W.alloc (.cells #[.int .i64 x] 3)) = .ok v' w' ∧
      w'.frozen? ⟨b, 13, none⟩ = false ∧ (w'.cell? ⟨b, 13, none⟩).isSome = true ∧ RqB (w'.setCell ⟨b, 13, none⟩ v') B b r v' (L ++ [x]) ∧ (∀ n, n ≤ B → Below n W (w'.setCell ⟨b, 13, none⟩ v')) ∧ Kpt W (w'.setCell ⟨b, 13, none⟩ v') b lv v' := by
  obtain ⟨h1, h2, h3, h4⟩ := h
  have hBs : B ≤ W.heap.size := Nat.le_of_lt (Nat.lt_of_le_of_lt h4 h1.lt)
  obtain ⟨i0, hi, hz0, hz1, hz2⟩ := info_parts infoI64
  obtain ⟨v', w', hrun, hb', hgr, hrw⟩ := run_append_buf (P := Tryz.prog) (W.alloc (.cells #[.int .i64 x] 3)) 36 36 3 i0 _ 1 8 Tryz.underlying36 hi hz0 hz1 hz2 rfl (by decide) B lv L.length _ (h2.past _) (some ⟨W.heap.size, 0, none⟩) 1 1 [.int .i64 x]
    ⟨rfl, fun y hy => by simp at hy; subst hy; rfl, fun _ => ⟨_, rfl, fun j y hj => by
      rw [Go.WideShapes.add_plain]
      simp only [World.cell?, heap_alloc_new, Nat.zero_add]
      simpa using hj⟩⟩ (by unfold maxLen; omega) (by omega) (by rw [World.size_alloc]; omega)
  have hblt := h1.lt
  have hne : v'.ownBlock ≠ some b := by
    rcases hrw with e | ⟨g, e, hg⟩
    · rw [e]; exact h3
    · rw [e]
      intro e2
      injection e2 with e2
      rw [World.size_alloc] at hg
      omega
  have hblk : Blk w' b 51 (r.row lv) := (h1.past _).grown hgr (fun e => h3 e.symm)
  have hown : ∀ j, lv.ownBlock = some j → B ≤ j := fun j e => by
    rcases h2.2 with ⟨rfl, _⟩ | ⟨g, off, cap, rfl, k1, _⟩
    · cases e
    · have e' : g = j := by simpa [Value.ownBlock] using e
      omega
  obtain ⟨g1, o1, c1, hv1⟩ := buf_pos hb'
  refine ⟨v', g1, o1, _, c1, w', hv1, hrun, hblk.frz 13, ?_, ⟨?_, ?_, hne, h4⟩, fun n hn => ?_, fun g hg hgb hgo => ?_⟩
  · rw [hblk.cell 13]; rfl
  · have := hblk.put 13 v'
    exact this
  · have := hb'.far (p := ⟨b, 13, none⟩) (by exact hne) v'
    rw [List.length_append, List.map_append]
    exact this
  · exact (((Below.refl _ W).alloc (by omega) _).grown hgr (by rw [World.size_alloc]; omega) (fun j e => by have := hown j e; omega)).setCell (by show n ≤ b; omega) _
  · have hno : v'.ownBlock ≠ some g := by
      rcases hrw with e | ⟨q, e, hq⟩
      · rw [e]; exact hgo
      · rw [e]
        intro e2
        injection e2 with e2
        rw [World.size_alloc] at hq
        omega
    refine ⟨?_, hno⟩
    rw [Below.heap_setCell w' ⟨b, 13, none⟩ v' g hgb, hgr.block g (by rw [World.size_alloc]; omega) (fun e => hgo e.symm)]
    exact Below.heap_alloc W _ g hg

set_option maxRecDepth 100000 in
set_option maxHeartbeats 3200000 in
theorem some_any (B b : Nat) (r : Rq) (lv : Value) (L : List Int) (fr tt : Int) (h0 : 0 ≤ fr ∧ fr ≤ 1000) (h1 : tt ≤ 1000) (w : World) (h : RqB w B b r lv L) (hl : L.length ≤ 1000) :
    Calls Tryz.prog 38 #[.pointer (some ⟨b, 0, none⟩), .int .i64 fr, .int .i64 tt] w fun e w' => e = .returned (.tuple #[]) ∧ (∃ lv', RqB w' B b r lv' (L ++ runL fr tt) ∧ Kpt w w' b lv lv') ∧ ∀ n, n ≤ B → Below n w w' := by
  obtain ⟨h2, h3⟩ := h0
  have HB := Lib.hid h
  clear h
  go_enter Tryz.func38, Tryz.ntmps38
  go_wp2_with fail
  go_loopw [6] (fun i wr => ∃ k : Int, fr ≤ k ∧ (k ≤ tt ∨ k = fr) ∧ i = .int .i64 k ∧ (∃ lv', RqB wr B b r lv' (L ++ runL fr k) ∧ Kpt w wr b lv lv') ∧ ∀ n, n ≤ B → Below n w wr) (fun i _ => (tt - intOf i).toNat)
  case atStart => exact ⟨fr, Int.le_refl _, .inr rfl, rfl, ⟨lv, by rw [runL_none (Int.le_refl _), List.append_nil]; exact HB.out, Kpt.refl _ _ _⟩, fun _ _ => Below.refl _ _⟩
  case round =>
    obtain ⟨k, hk1, hk2, rfl, ⟨lv', hrq, hkp⟩, hbel⟩ := hrel
    by_cases hlt : k < tt
    · have hkw : IntKind.i64.wrap (k + 1) = k + 1 := by simp [IntKind.wrap, IntKind.bits, IntKind.signed]; omega
      have hsn := runL_snoc hk1
      have hlen := runL_len fr k
      obtain ⟨v2, g2, o2, n2, c2, w2, rfl, hrun, hfz, hsm, hrq2, hb2, hkp2⟩ := push_lock hrq k (by rw [List.length_append, hlen]; omega)
      obtain ⟨u2, hu2⟩ := Option.isSome_iff_exists.1 hsm
      have c13 : wr.cell? ⟨b, 13, none⟩ = some lv' := hrq.1.cell 13
      have HR := Lib.hid hrun
      have HX := Lib.hid (And.intro hrq2 (And.intro hb2 (And.intro hbel (And.intro hsn (hkp.trans hkp2 (hbel 0 (Nat.zero_le _)).size)))))
      clear hkp hkp2 hrun hrq2 hb2 hbel hsn hrq hlen hsm
      go_wp2_with (at_builtin; refine wpList_append_run _ rfl (.tmp 17) (.tmp 19) _ _ rfl _ _ rfl rfl _ _ HR.out ?_)
      go_roundw
      case rel =>
        refine ⟨k + 1, by omega, .inl (by omega), by go_num, ⟨_, ?_, HX.out.2.2.2.2⟩, fun n hn => (HX.out.2.2.1 n hn).trans (HX.out.2.1 n hn)⟩
        rw [HX.out.2.2.2.1, ← List.append_assoc]
        exact HX.out.1
      case measure => simp [intOf]; omega
    · have hx : runL fr k = runL fr tt := by
        rcases hk2 with hk2 | hk2
        · rw [show k = tt by omega]
        · rw [runL_none (by omega), runL_none (by omega)]
      have HX := Lib.hid (And.intro hx (And.intro hrq (And.intro hbel hkp)))
      clear hx hrq hbel hkp
      go_wp2_with fail
      go_end0
      exact ⟨rfl, ⟨lv', by rw [← HX.out.1]; exact HX.out.2.1, HX.out.2.2.2⟩, HX.out.2.2.1⟩

set_option maxRecDepth 100000 in
set_option maxHeartbeats 3200000 in
theorem own_any (B b : Nat) (r : Rq) (hr : r.ok) (lv : Value) (L : List Int) (w : World) (h : RqB w B b r lv L) (hl : L.length ≤ 1000) :
    Calls Tryz.prog 36 #[.pointer (some ⟨b, 0, none⟩)] w fun e w' => e = .returned (.tuple #[]) ∧ (∃ lv', RqB w' B b r lv' (L ++ ownL r.st r.id)) ∧ ∀ n, n ≤ B → Below n w w' := by
  have HQ := Lib.hid (fun W => queues_any r.st r.ss hr.1 W)
  have HS := Lib.hid (fun W (h : RqB W B b r lv L) => some_any B b r lv L (1 + r.st + r.id) (1 + r.st + r.id + 1) (by have := hr.1; have := hr.2.2; omega) (by have := hr.1; have := hr.2.2; omega) W h hl)
  have HB := Lib.hid h
  obtain ⟨⟨q1, q2⟩, -, ⟨q3, q4⟩⟩ := hr
  have hw1 : IntKind.i64.wrap (1 + r.st + r.id) = 1 + r.st + r.id := by simp [IntKind.wrap, IntKind.bits, IntKind.signed]; omega
  have hw2 : IntKind.i64.wrap (1 + r.st + r.id + 1) = 1 + r.st + r.id + 1 := by simp [IntKind.wrap, IntKind.bits, IntKind.signed]; omega
  clear h
  go_enter Tryz.func36, Tryz.ntmps36
  go_upto_region 0 with fail
  have HZ0 := Lib.hid (show RqB w.drew B b r lv L ∧ ∀ n, n ≤ B → Below n w w.drew from ⟨HB.out, fun n _ => Below.drew (Below.refl n w)⟩)
  refine region_anyC (fun W => RqC W b r) (by kernel_rfl) ?_
  refine anyC_take (i := 0) (v := ?_) rfl (by kernel_rfl) (by kernel_rfl) (by kernel_rfl) (fun _ _ _ h => h) (HZ0.out.1.c) (Or.inl ⟨by rfl, ?_⟩) ?_
  rotate_left
  · intro W hW
    go_simp
    try with_reducible rfl
  try simp only [List.getElem_toArray, List.getElem_cons_zero, List.getElem_cons_succ, Act.put, List.setIfInBounds_toArray, List.set_cons_zero, List.set_cons_succ]
  refine anyC_take (i := 1) (v := ?_) rfl (by kernel_rfl) (by kernel_rfl) (by kernel_rfl) (fun _ _ _ h => h) (HZ0.out.1.c) (Or.inl ⟨by rfl, ?_⟩) ?_
  rotate_left
  · intro W hW
    go_simp
    try with_reducible rfl
  try simp only [List.getElem_toArray, List.getElem_cons_zero, List.getElem_cons_succ, Act.put, List.setIfInBounds_toArray, List.set_cons_zero, List.set_cons_succ]
  refine anyC_take (i := 2) (v := ?_) rfl (by kernel_rfl) (by kernel_rfl) (by kernel_rfl) (fun _ _ _ h => h) (HZ0.out.1.c) (Or.inl ⟨by rfl, ?_⟩) ?_
  rotate_left
  · intro W hW
    go_simp
    try with_reducible rfl
  try simp only [List.getElem_toArray, List.getElem_cons_zero, List.getElem_cons_succ, Act.put, List.setIfInBounds_toArray, List.set_cons_zero, List.set_cons_succ]
  refine anyC_take (i := 3) (v := ?_) rfl (by kernel_rfl) (by kernel_rfl) (by kernel_rfl) (fun _ _ _ h => h) (HZ0.out.1.c) (Or.inl ⟨by rfl, ?_⟩) ?_
  rotate_left
  · intro W hW
    go_simp
    try with_reducible rfl
  try simp only [List.getElem_toArray, List.getElem_cons_zero, List.getElem_cons_succ, Act.put, List.setIfInBounds_toArray, List.set_cons_zero, List.set_cons_succ]
  refine anyC_take (i := 6) (v := ?_) rfl (by kernel_rfl) (by kernel_rfl) (by kernel_rfl) (fun _ _ _ h => h) (HZ0.out.1.c) (Or.inl ⟨by rfl, ?_⟩) ?_
  rotate_left
  · intro W hW
    go_simp
    try with_reducible rfl
  try simp only [List.getElem_toArray, List.getElem_cons_zero, List.getElem_cons_succ, Act.put, List.setIfInBounds_toArray, List.set_cons_zero, List.set_cons_succ]
  refine anyC_take (i := 7) (v := ?_) rfl (by kernel_rfl) (by kernel_rfl) (by kernel_rfl) (fun _ _ _ h => h) (HZ0.out.1.c) (Or.inl ⟨by rfl, ?_⟩) ?_
  rotate_left
  · intro W hW
    go_simp
    try with_reducible rfl
  try simp only [List.getElem_toArray, List.getElem_cons_zero, List.getElem_cons_succ, Act.put, List.setIfInBounds_toArray, List.set_cons_zero, List.set_cons_succ]
  refine anyC_take (i := 8) (v := ?_) rfl (by kernel_rfl) (by kernel_rfl) (by kernel_rfl) (fun _ _ _ h => h) (HZ0.out.1.c) (Or.inl ⟨by rfl, ?_⟩) ?_
  rotate_left
  · intro W hW
    go_simp
    try with_reducible rfl
  try simp only [List.getElem_toArray, List.getElem_cons_zero, List.getElem_cons_succ, Act.put, List.setIfInBounds_toArray, List.set_cons_zero, List.set_cons_succ]
  refine anyC_take (i := 11) (v := ?_) rfl (by kernel_rfl) (by kernel_rfl) (by kernel_rfl) (fun _ _ _ h => h) (HZ0.out.1.c) (Or.inl ⟨by rfl, ?_⟩) ?_
  rotate_left
  · intro W hW
    go_simp
    try with_reducible rfl
  try simp only [List.getElem_toArray, List.getElem_cons_zero, List.getElem_cons_succ, Act.put, List.setIfInBounds_toArray, List.set_cons_zero, List.set_cons_succ]
  refine anyC_take (i := 12) (v := ?_) rfl (by kernel_rfl) (by kernel_rfl) (by kernel_rfl) (fun _ _ _ h => h) (HZ0.out.1.c) (Or.inl ⟨by rfl, ?_⟩) ?_
  rotate_left
  · intro W hW
    go_simp
    try with_reducible rfl
  try simp only [List.getElem_toArray, List.getElem_cons_zero, List.getElem_cons_succ, Act.put, List.setIfInBounds_toArray, List.set_cons_zero, List.set_cons_succ]
  refine anyC_take (i := 13) (v := ?_) rfl (by kernel_rfl) (by kernel_rfl) (by kernel_rfl) (fun _ _ _ h => h) (HZ0.out.1.c) (Or.inl ⟨by rfl, ?_⟩) ?_
  rotate_left
  · intro W hW
    go_simp
    try with_reducible rfl
  try simp only [List.getElem_toArray, List.getElem_cons_zero, List.getElem_cons_succ, Act.put, List.setIfInBounds_toArray, List.set_cons_zero, List.set_cons_succ]
  refine anyC_take (i := 16) (v := ?_) rfl (by kernel_rfl) (by kernel_rfl) (by kernel_rfl) (fun _ _ _ h => h) (HZ0.out.1.c) (Or.inl ⟨by rfl, ?_⟩) ?_
  rotate_left
  · intro W hW
    go_simp
    try with_reducible rfl
  try simp only [List.getElem_toArray, List.getElem_cons_zero, List.getElem_cons_succ, Act.put, List.setIfInBounds_toArray, List.set_cons_zero, List.set_cons_succ]
  refine anyC_take (i := 17) (v := ?_) rfl (by kernel_rfl) (by kernel_rfl) (by kernel_rfl) (fun _ _ _ h => h) (HZ0.out.1.c) (Or.inl ⟨by rfl, ?_⟩) ?_
  rotate_left
  · intro W hW
    go_simp
    try with_reducible rfl
  try simp only [List.getElem_toArray, List.getElem_cons_zero, List.getElem_cons_succ, Act.put, List.setIfInBounds_toArray, List.set_cons_zero, List.set_cons_succ]
  refine anyC_take (i := 18) (v := ?_) rfl (by kernel_rfl) (by kernel_rfl) (by kernel_rfl) (fun _ _ _ h => h) (HZ0.out.1.c) (Or.inl ⟨by rfl, ?_⟩) ?_
  rotate_left
  · intro W hW
    go_simp
    try with_reducible rfl
  try simp only [List.getElem_toArray, List.getElem_cons_zero, List.getElem_cons_succ, Act.put, List.setIfInBounds_toArray, List.set_cons_zero, List.set_cons_succ]
  refine anyC_take (i := 4) (v := ?_) rfl (by kernel_rfl) (by kernel_rfl) (by kernel_rfl) (fun _ _ _ h => h) (HZ0.out.1.c) (Or.inl ⟨by rfl, ?_⟩) ?_
  rotate_left
  · intro W hW
    obtain ⟨c0, c1, c2, -, -, -, -⟩ := RqC.cells hW
    go_simp
    try with_reducible rfl
  try simp only [List.getElem_toArray, List.getElem_cons_zero, List.getElem_cons_succ, Act.put, List.setIfInBounds_toArray, List.set_cons_zero, List.set_cons_succ]
  refine anyC_take (i := 9) (v := ?_) rfl (by kernel_rfl) (by kernel_rfl) (by kernel_rfl) (fun _ _ _ h => h) (HZ0.out.1.c) (Or.inl ⟨by rfl, ?_⟩) ?_
  rotate_left
  · intro W hW
    obtain ⟨c0, c1, c2, -, -, -, -⟩ := RqC.cells hW
    go_simp
    try with_reducible rfl
  try simp only [List.getElem_toArray, List.getElem_cons_zero, List.getElem_cons_succ, Act.put, List.setIfInBounds_toArray, List.set_cons_zero, List.set_cons_succ]
  refine anyC_take (i := 14) (v := ?_) rfl (by kernel_rfl) (by kernel_rfl) (by kernel_rfl) (fun _ _ _ h => h) (HZ0.out.1.c) (Or.inl ⟨by rfl, ?_⟩) ?_
  rotate_left
  · intro W hW
    obtain ⟨c0, c1, c2, -, -, -, -⟩ := RqC.cells hW
    go_simp
    try with_reducible rfl
  try simp only [List.getElem_toArray, List.getElem_cons_zero, List.getElem_cons_succ, Act.put, List.setIfInBounds_toArray, List.set_cons_zero, List.set_cons_succ]
  refine anyC_take (i := 19) (v := ?_) rfl (by kernel_rfl) (by kernel_rfl) (by kernel_rfl) (fun _ _ _ h => h) (HZ0.out.1.c) (Or.inl ⟨by rfl, ?_⟩) ?_
  rotate_left
  · intro W hW
    obtain ⟨c0, c1, c2, -, -, -, -⟩ := RqC.cells hW
    go_simp
    try with_reducible rfl
  try simp only [List.getElem_toArray, List.getElem_cons_zero, List.getElem_cons_succ, Act.put, List.setIfInBounds_toArray, List.set_cons_zero, List.set_cons_succ]
  refine anyC_one (i := 5) (by kernel_rfl) (fun K hK => ⟨_, rfl, by kernel_rfl, ?_⟩)
  go_simp
  refine (HQ.out _).mono ?_
  rintro e W1 ⟨rfl, hb1⟩
  have hk1 := HZ0.out.1.below hb1 (Nat.le_refl _)
  have HZ1 := Lib.hid (And.intro hk1 (fun n (hn : n ≤ B) => (HZ0.out.2 n hn).trans (hb1.mono (Nat.le_of_lt (Nat.lt_of_le_of_lt (Nat.le_trans hn HZ0.out.1.2.2.2) HZ0.out.1.lt)))))
  clear hk1 hb1
  refine hK _ _ (HZ1.out.1.c) ?_
  clear hK K
  try simp only [List.getElem_toArray, List.getElem_cons_zero, List.getElem_cons_succ, Act.put, List.setIfInBounds_toArray, List.set_cons_zero, List.set_cons_succ]
  refine anyC_take (i := 10) (v := ?_) rfl (by kernel_rfl) (by kernel_rfl) (by kernel_rfl) (fun _ _ _ h => h) (HZ1.out.1.c) (Or.inl ⟨by rfl, ?_⟩) ?_
  rotate_left
  · intro W hW
    go_simp
    try with_reducible rfl
  try simp only [List.getElem_toArray, List.getElem_cons_zero, List.getElem_cons_succ, Act.put, List.setIfInBounds_toArray, List.set_cons_zero, List.set_cons_succ]
  refine anyC_one (i := 15) (by kernel_rfl) (fun K hK => ⟨_, rfl, by kernel_rfl, ?_⟩)
  go_simp
  refine (HQ.out _).mono ?_
  rintro e W2 ⟨rfl, hb2⟩
  have hk2 := HZ1.out.1.below hb2 (Nat.le_refl _)
  have HZ2 := Lib.hid (And.intro hk2 (fun n (hn : n ≤ B) => (HZ1.out.2 n hn).trans (hb2.mono (Nat.le_of_lt (Nat.lt_of_le_of_lt (Nat.le_trans hn HZ1.out.1.2.2.2) HZ1.out.1.lt)))))
  clear hk2 hb2
  refine hK _ _ (HZ2.out.1.c) ?_
  clear hK K
  try simp only [List.getElem_toArray, List.getElem_cons_zero, List.getElem_cons_succ, Act.put, List.setIfInBounds_toArray, List.set_cons_zero, List.set_cons_succ]
  refine anyC_take (i := 20) (v := ?_) rfl (by kernel_rfl) (by kernel_rfl) (by kernel_rfl) (fun _ _ _ h => h) (HZ2.out.1.c) (Or.inl ⟨by rfl, ?_⟩) ?_
  rotate_left
  · intro W hW
    go_simp
    try with_reducible rfl
  try simp only [List.getElem_toArray, List.getElem_cons_zero, List.getElem_cons_succ, Act.put, List.setIfInBounds_toArray, List.set_cons_zero, List.set_cons_succ]
  refine anyC_take (i := 21) (v := ?_) rfl (by kernel_rfl) (by kernel_rfl) (by kernel_rfl) (fun _ _ _ h => h) (HZ2.out.1.c) (Or.inl ⟨by rfl, ?_⟩) ?_
  rotate_left
  · intro W hW
    go_simp
    try with_reducible rfl
  try simp only [List.getElem_toArray, List.getElem_cons_zero, List.getElem_cons_succ, Act.put, List.setIfInBounds_toArray, List.set_cons_zero, List.set_cons_succ]
  refine anyC_one (i := 22) (by kernel_rfl) (fun K hK => ⟨_, rfl, by kernel_rfl, ?_⟩)
  go_simp
  refine (HS.out _ HZ2.out.1).mono ?_
  rintro e W3 ⟨rfl, ⟨lv3, hk3, -⟩, hb3⟩
  have HZ3 := Lib.hid (And.intro hk3 (fun n (hn : n ≤ B) => (HZ2.out.2 n hn).trans (hb3 n hn)))
  clear hk3 hb3
  refine hK _ _ (HZ3.out.1.c) ?_
  clear hK K
  try simp only [List.getElem_toArray, List.getElem_cons_zero, List.getElem_cons_succ, Act.put, List.setIfInBounds_toArray, List.set_cons_zero, List.set_cons_succ]
  refine anyC_done (by kernel_rfl) ?_ _
  go_wp2_with fail
  go_end0
  exact ⟨rfl, ⟨lv3, by have := HZ3.out.1; rw [runL_one] at this; exact this⟩, HZ3.out.2⟩

set_option maxRecDepth 100000 in
set_option maxHeartbeats 3200000 in
theorem all_any (B b : Nat) (r : Rq) (hr : r.ok) (lv : Value) (L : List Int) (w : World) (h : RqB w B b r lv L) (hl : L.length ≤ 1000) :
    Calls Tryz.prog 41 #[.pointer (some ⟨b, 0, none⟩)] w fun e w' => e = .returned (.tuple #[]) ∧ (∃ lv', RqB w' B b r lv' (L ++ queL r.st r.ss)) ∧ ∀ n, n ≤ B → Below n w w' := by
  have HQ := Lib.hid (fun W => queues_any r.st r.ss hr.1 W)
  have HN := Lib.hid (fun W => count_any r.st r.ss hr.1 hr.2.1 W)
  have HS := Lib.hid (fun W (h : RqB W B b r lv L) => some_any B b r lv L (1 + r.st) (1 + r.st + r.ss) (by have := hr.1; omega) (by have := hr.1; have := hr.2.1; omega) W h hl)
  have HB := Lib.hid h
  clear h
  go_enter Tryz.func41, Tryz.ntmps41
  go_upto_region 0 with fail
  have HZ0 := Lib.hid (show RqB w.drew B b r lv L ∧ ∀ n, n ≤ B → Below n w w.drew from ⟨HB.out, fun n _ => Below.drew (Below.refl n w)⟩)
  refine region_anyC (fun W => RqC W b r) (by kernel_rfl) ?_
  refine anyC_take (i := 0) (v := ?_) rfl (by kernel_rfl) (by kernel_rfl) (by kernel_rfl) (fun _ _ _ h => h) (HZ0.out.1.c) (Or.inl ⟨by rfl, ?_⟩) ?_
  rotate_left
  · intro W hW
    go_simp
    try with_reducible rfl
  try simp only [List.getElem_toArray, List.getElem_cons_zero, List.getElem_cons_succ, Act.put, List.setIfInBounds_toArray, List.set_cons_zero, List.set_cons_succ]
  refine anyC_take (i := 1) (v := ?_) rfl (by kernel_rfl) (by kernel_rfl) (by kernel_rfl) (fun _ _ _ h => h) (HZ0.out.1.c) (Or.inl ⟨by rfl, ?_⟩) ?_
  rotate_left
  · intro W hW
    go_simp
    try with_reducible rfl
  try simp only [List.getElem_toArray, List.getElem_cons_zero, List.getElem_cons_succ, Act.put, List.setIfInBounds_toArray, List.set_cons_zero, List.set_cons_succ]
  refine anyC_take (i := 2) (v := ?_) rfl (by kernel_rfl) (by kernel_rfl) (by kernel_rfl) (fun _ _ _ h => h) (HZ0.out.1.c) (Or.inl ⟨by rfl, ?_⟩) ?_
  rotate_left
  · intro W hW
    go_simp
    try with_reducible rfl
  try simp only [List.getElem_toArray, List.getElem_cons_zero, List.getElem_cons_succ, Act.put, List.setIfInBounds_toArray, List.set_cons_zero, List.set_cons_succ]
  refine anyC_take (i := 3) (v := ?_) rfl (by kernel_rfl) (by kernel_rfl) (by kernel_rfl) (fun _ _ _ h => h) (HZ0.out.1.c) (Or.inl ⟨by rfl, ?_⟩) ?_
  rotate_left
  · intro W hW
    go_simp
    try with_reducible rfl
  try simp only [List.getElem_toArray, List.getElem_cons_zero, List.getElem_cons_succ, Act.put, List.setIfInBounds_toArray, List.set_cons_zero, List.set_cons_succ]
  refine anyC_take (i := 6) (v := ?_) rfl (by kernel_rfl) (by kernel_rfl) (by kernel_rfl) (fun _ _ _ h => h) (HZ0.out.1.c) (Or.inl ⟨by rfl, ?_⟩) ?_
  rotate_left
  · intro W hW
    go_simp
    try with_reducible rfl
  try simp only [List.getElem_toArray, List.getElem_cons_zero, List.getElem_cons_succ, Act.put, List.setIfInBounds_toArray, List.set_cons_zero, List.set_cons_succ]
  refine anyC_take (i := 7) (v := ?_) rfl (by kernel_rfl) (by kernel_rfl) (by kernel_rfl) (fun _ _ _ h => h) (HZ0.out.1.c) (Or.inl ⟨by rfl, ?_⟩) ?_
  rotate_left
  · intro W hW
    go_simp
    try with_reducible rfl
  try simp only [List.getElem_toArray, List.getElem_cons_zero, List.getElem_cons_succ, Act.put, List.setIfInBounds_toArray, List.set_cons_zero, List.set_cons_succ]
  refine anyC_take (i := 8) (v := ?_) rfl (by kernel_rfl) (by kernel_rfl) (by kernel_rfl) (fun _ _ _ h => h) (HZ0.out.1.c) (Or.inl ⟨by rfl, ?_⟩) ?_
  rotate_left
  · intro W hW
    go_simp
    try with_reducible rfl
  try simp only [List.getElem_toArray, List.getElem_cons_zero, List.getElem_cons_succ, Act.put, List.setIfInBounds_toArray, List.set_cons_zero, List.set_cons_succ]
  refine anyC_take (i := 4) (v := ?_) rfl (by kernel_rfl) (by kernel_rfl) (by kernel_rfl) (fun _ _ _ h => h) (HZ0.out.1.c) (Or.inl ⟨by rfl, ?_⟩) ?_
  rotate_left
  · intro W hW
    obtain ⟨c0, c1, c2, -, -, -, -⟩ := RqC.cells hW
    go_simp
    try with_reducible rfl
  try simp only [List.getElem_toArray, List.getElem_cons_zero, List.getElem_cons_succ, Act.put, List.setIfInBounds_toArray, List.set_cons_zero, List.set_cons_succ]
  refine anyC_take (i := 9) (v := ?_) rfl (by kernel_rfl) (by kernel_rfl) (by kernel_rfl) (fun _ _ _ h => h) (HZ0.out.1.c) (Or.inl ⟨by rfl, ?_⟩) ?_
  rotate_left
  · intro W hW
    obtain ⟨c0, c1, c2, -, -, -, -⟩ := RqC.cells hW
    go_simp
    try with_reducible rfl
  try simp only [List.getElem_toArray, List.getElem_cons_zero, List.getElem_cons_succ, Act.put, List.setIfInBounds_toArray, List.set_cons_zero, List.set_cons_succ]
  refine anyC_one (i := 5) (by kernel_rfl) (fun K hK => ⟨_, rfl, by kernel_rfl, ?_⟩)
  go_simp
  refine (HQ.out _).mono ?_
  rintro e W1 ⟨rfl, hb1⟩
  have hk1 := HZ0.out.1.below hb1 (Nat.le_refl _)
  have HZ1 := Lib.hid (And.intro hk1 (fun n (hn : n ≤ B) => (HZ0.out.2 n hn).trans (hb1.mono (Nat.le_of_lt (Nat.lt_of_le_of_lt (Nat.le_trans hn HZ0.out.1.2.2.2) HZ0.out.1.lt)))))
  clear hk1 hb1
  refine hK _ _ (HZ1.out.1.c) ?_
  clear hK K
  try simp only [List.getElem_toArray, List.getElem_cons_zero, List.getElem_cons_succ, Act.put, List.setIfInBounds_toArray, List.set_cons_zero, List.set_cons_succ]
  refine anyC_one (i := 10) (by kernel_rfl) (fun K hK => ⟨_, rfl, by kernel_rfl, ?_⟩)
  go_simp
  refine (HN.out _).mono ?_
  rintro e W2 ⟨rfl, hb2⟩
  have hk2 := HZ1.out.1.below hb2 (Nat.le_refl _)
  have HZ2 := Lib.hid (And.intro hk2 (fun n (hn : n ≤ B) => (HZ1.out.2 n hn).trans (hb2.mono (Nat.le_of_lt (Nat.lt_of_le_of_lt (Nat.le_trans hn HZ1.out.1.2.2.2) HZ1.out.1.lt)))))
  clear hk2 hb2
  refine hK _ _ (HZ2.out.1.c) ?_
  clear hK K
  try simp only [List.getElem_toArray, List.getElem_cons_zero, List.getElem_cons_succ, Act.put, List.setIfInBounds_toArray, List.set_cons_zero, List.set_cons_succ]
  refine anyC_one (i := 11) (by kernel_rfl) (fun K hK => ⟨_, rfl, by kernel_rfl, ?_⟩)
  go_simp
  refine (HS.out _ HZ2.out.1).mono ?_
  rintro e W3 ⟨rfl, ⟨lv3, hk3, -⟩, hb3⟩
  have HZ3 := Lib.hid (And.intro hk3 (fun n (hn : n ≤ B) => (HZ2.out.2 n hn).trans (hb3 n hn)))
  clear hk3 hb3
  refine hK _ _ (HZ3.out.1.c) ?_
  clear hK K
  try simp only [List.getElem_toArray, List.getElem_cons_zero, List.getElem_cons_succ, Act.put, List.setIfInBounds_toArray, List.set_cons_zero, List.set_cons_succ]
  refine anyC_done (by kernel_rfl) ?_ _
  go_wp2_with fail
  go_end0
  exact ⟨rfl, ⟨lv3, HZ3.out.1⟩, HZ3.out.2⟩
end Go.Proofs.YtamholmjppgfiaaGreatDoor
