/- The walks of package quote: Literal and Best; and their references. -/
import Derived.Test.YthoccgkkgnlbpaaDoorQ2
import Derived.Test.YthoccgkkgnlbpaaDoorBuf
import Derived.Lib.BufferWrite
import Derived.Laws.CopyOwn
namespace Go.Proofs.YthoccgkkgnlbpaaDoor
open Go.RowKit

theorem wpList_copy_run {P : Program} {w : World} {ops : Array Oper} {rest : List Oper} {o : Oper} {a : Act} {Q : Exit → Act → World → Prop} (hgd : o.guard = none) (d s : Operand) (dT sT : TypeId)
    (ho : o.op = .call { callee := .builtin .copy, args := #[d, s], argTypes := #[dT, sT] }) (x y : Value) (hx : a.eval d = x) (hy : a.eval s = y) (v : Value) (w' : World)
    (hrun : (Builtin.copy_ #[dT, sT] o.type #[x, y]).run P w = .ok v w') (h : wpList P ops Q rest (a.put o.dst v) w') : wpList P ops Q (o :: rest) a w := by
  refine wpList_plain hgd fun K hK => ?_
  unfold Oper.wp execOp
  simp only [ho, resolve, invoke, builtin, Sem.run_bind, Sem.run_pure, Result.andThen_ok, List.map_toArray, List.map_cons, List.map_nil, hx, hy, hrun]
  exact hK _ _ h

theorem madeCells_bytes (n : Nat) : madeCells (Value.int .u8 0).cells n = (Lib.byteCells (List.replicate n (0 : UInt8))).toArray := by
  apply Array.ext
  · simp [madeCells, Lib.byteCells]
  · intro i h1 h2
    simp [madeCells, Lib.byteCells, Value.cells, Nat.mod_one]
theorem byteCells_app (a b : List UInt8) : Lib.byteCells (a ++ b) = Lib.byteCells a ++ Lib.byteCells b := by simp [Lib.byteCells]

/-- A row of bytes, known whole. -/
def Row (w : World) (g : Nat) (l : List UInt8) : Prop := w.heap[g]? = some (.cells (Lib.byteCells l).toArray 5 (0, 0))
theorem Row.bys {w : World} {g : Nat} {l : List UInt8} (h : Row w g l) : Bys w (g + 1) (some ⟨g, 0, none⟩) l := fun _ => by
  refine ⟨g, 0, rfl, by omega, fun i hi => ?_⟩
  unfold Row at h
  simp [World.cell?, h, Lib.byteCells, hi]
theorem Row.free {w : World} {g : Nat} {l : List UInt8} (h : Row w g l) (i : Nat) : w.frozen? ⟨g, i, none⟩ = false := by
  unfold Row at h
  simp [World.frozen?, h]
theorem Row.lt {w : World} {g : Nat} {l : List UInt8} (h : Row w g l) : g < w.heap.size := lt_of_block h
theorem Row.below {w w' : World} {g B : Nat} {l : List UInt8} (h : Row w g l) (hb : Below B w w') (hg : g < B) : Row w' g l := (hb.block g hg).trans h

theorem u8size : (Tryd.prog.info? 5).map (·.size) = some 1 := by kernel_rfl
theorem make_row (n : Nat) (hn : n ≤ 4194304) (W : World) (N : Int) (hN : N = n) :
    (Instr.makeSlice 22 (.int .i64 N) (.int .i64 N)).run Tryd.prog W = .ok (.slice (some ⟨W.heap.size, 0, none⟩) n n) (W.alloc (.cells (Lib.byteCells (List.replicate n (0 : UInt8))).toArray 5)) := by
  obtain ⟨i0, hi, hz0, hz1, hz2⟩ := info_parts infoU8
  subst hN
  have h := run_make (P := Tryd.prog) (w := W) 22 5 i0 (.int .u8 0) Tryd.underlying22 hi hz0 .i64 .i64 n n (by omega) (by omega) (by rw [hz2]; omega) (by omega)
  rw [h, hz1, Nat.mul_one, Int.toNat_natCast, madeCells_bytes]
theorem row_new (W : World) (l : List UInt8) : Row (W.alloc (.cells (Lib.byteCells l).toArray 5)) W.heap.size l := heap_alloc_new W _

theorem splice_gen {α : Type} (A B D M : List α) (o k : Nat) (ha : A.length = o) (hb : B.length = k) : (A ++ B ++ D).toArray.toList.take o ++ M ++ (A ++ B ++ D).toArray.toList.drop (o + k) = A ++ M ++ D := by
  subst ha hb
  show (A ++ B ++ D).take A.length ++ M ++ (A ++ B ++ D).drop (A.length + B.length) = _
  rw [List.append_assoc A B D, List.take_left, ← List.drop_drop, List.drop_left, List.drop_left]
theorem splice_cells (a b d m : List UInt8) (o k : Nat) (ha : a.length = o) (hb : b.length = k) :
    ((Lib.byteCells (a ++ b ++ d)).toArray.toList.take o ++ Lib.byteCells m ++ (Lib.byteCells (a ++ b ++ d)).toArray.toList.drop (o + k)) = Lib.byteCells (a ++ m ++ d) := by
  have h1 : (Lib.byteCells a).length = o := by rw [Lib.byteCells_length, ha]
  have h2 : (Lib.byteCells b).length = k := by rw [Lib.byteCells_length, hb]
  rw [byteCells_app, byteCells_app, byteCells_app, byteCells_app]
  exact splice_gen _ _ _ _ o k h1 h2
set_option maxRecDepth 100000 in
theorem copy_str (W : World) (ty : TypeId) (g o n c : Nat) (s : ByteArray) (a b d : List UInt8) (hr : Row W g (a ++ b ++ d)) (ha : a.length = o) (hb : b.length = s.size) (hn : s.size ≤ n) :
    (Builtin.copy_ #[22, 9] ty #[.slice (some ⟨g, o, none⟩) n c, .string s]).run Tryd.prog W = .ok (goInt s.size) (W.setRow g (Lib.byteCells (a ++ s.data.toList ++ d)).toArray) := by
  have h := Lib.run_copy_row_string (P := Tryd.prog) W 22 9 ty 5 g o n c s _ _ Tryd.underlying22 u8size hr hn (by simp [Lib.byteCells]; omega)
  rw [splice_cells a b d _ o _ ha hb] at h
  exact h
set_option maxRecDepth 100000 in
theorem copy_bys (W : World) (ty : TypeId) (g o n c : Nat) (p : Option Addr) (B m : Nat) (l a b d : List UInt8) (hr : Row W g (a ++ b ++ d)) (ha : a.length = o) (hb : b.length = l.length) (hn : l.length ≤ n) (hl : Bys W B p l) (h0 : 0 < l.length) :
    (Builtin.copy_ #[22, 22] ty #[.slice (some ⟨g, o, none⟩) n c, .slice p l.length m]).run Tryd.prog W = .ok (goInt l.length) (W.setRow g (Lib.byteCells (a ++ l ++ d)).toArray) := by
  obtain ⟨q, off, rfl, _, hc⟩ := hl h0
  have h := run_copy_row (P := Tryd.prog) W 22 22 ty 5 g o n c ⟨q, off, none⟩ l.length m _ _ (Lib.byteCells l) Tryd.underlying22 u8size hr
    (by rw [Lib.byteCells_length]; exact (Nat.min_eq_left hn).symm) (fun j v hj => by
      have hj' : j < l.length := by have := (List.getElem?_eq_some_iff.1 hj).1; simpa [Lib.byteCells] using this
      rw [Go.WideShapes.add_plain, hc j hj']
      simpa [Lib.byteCells, hj'] using hj) (by simp [Lib.byteCells]; omega) (Lib.byteCells_one l)
  rw [Lib.byteCells_length, splice_cells a b d _ o _ ha hb] at h
  exact h
theorem row_set {W : World} {g : Nat} {l : List UInt8} (h : Row W g l) (m : List UInt8) : Row (W.setRow g (Lib.byteCells m).toArray) g m := setRow_heap W g _ _ _ _ h

/-- What a call hands back as a slice of bytes in memory of its own: nil or new, as it may be. -/
def RetB (W : World) (l : List UInt8) (e : Ending) (w' : World) : Prop :=
  ∃ v, e = .returned v ∧ Buf w' W.heap.size 1 v l.length (Lib.byteCells l) ∧ Below W.heap.size W w'

theorem retB_row {W w' : World} {g cap : Nat} {l : List UInt8} (hr : Row w' g l) (hg : W.heap.size ≤ g) (hc : cap = l.length) (hb : Below W.heap.size W w') : RetB W l (.returned (.slice (some ⟨g, 0, none⟩) l.length cap)) w' := by
  subst hc
  have hcell : ∀ j, w'.cell? ⟨g, 0 + j, none⟩ = (Lib.byteCells l)[j]? := fun j => by
    have h : w'.heap[g]? = some (.cells (Lib.byteCells l).toArray 5 (0, 0)) := hr
    simp [World.cell?, h]
  refine ⟨_, rfl, ⟨by rw [Lib.byteCells_length, Nat.mul_one], .inr ⟨g, 0, l.length, rfl, hg, hr.lt, Nat.le_refl _, fun j u hj => by rw [hcell, hj], fun j hj => ⟨?_, hr.free _⟩⟩⟩, hb⟩
  rw [hcell, List.getElem?_eq_getElem (by rw [Lib.byteCells_length]; omega)]; rfl
/-- What such a value reads as. -/
theorem Buf.bys {w : World} {base : Nat} {v : Value} {l : List UInt8} (h : Buf w base 1 v l.length (Lib.byteCells l)) : ∃ p cap, v = .slice p l.length cap ∧ l.length ≤ cap ∧ Bys w w.heap.size p l := by
  rcases h.2 with ⟨rfl, h0⟩ | ⟨g, off, cap, rfl, hg, hlt, hnc, hc, hf⟩
  · have : l = [] := List.eq_nil_of_length_eq_zero h0
    subst this
    exact ⟨none, 0, rfl, Nat.le_refl _, Bys.nil _ _ _⟩
  · exact ⟨_, cap, rfl, hnc, fun _ => ⟨g, off, rfl, hlt, fun i hi => hc i _ (by simp [Lib.byteCells, hi])⟩⟩
theorem src_bys {w : World} {B : Nat} {p : Option Addr} {l : List UInt8} (h : Bys w B p l) : Src w 1 p l.length (Lib.byteCells l) := by
  refine ⟨by rw [Lib.byteCells_length, Nat.mul_one], Lib.byteCells_one l, fun h0 => ?_⟩
  obtain ⟨b, o, rfl, _, hc⟩ := h h0
  refine ⟨_, rfl, fun j u hj => ?_⟩
  have hj' : j < l.length := by have := (List.getElem?_eq_some_iff.1 hj).1; simpa [Lib.byteCells] using this
  rw [Go.WideShapes.add_plain, hc j hj']
  simpa [Lib.byteCells, hj'] using hj

theorem byteCells_at (l : List UInt8) (j : Nat) (h : j < l.length) : (Lib.byteCells l)[j]? = some (.int .u8 (l[j].toNat : Int)) := by simp [Lib.byteCells, h]
/-- '[]byte(s)'. -/
theorem conv_new (w : World) (s : ByteArray) : ∃ v w', (convert 9 22 (.string s)).run Tryd.prog w = .ok v w' ∧ Buf w' w.heap.size 1 v s.size (Lib.byteCells s.data.toList) ∧ Below w.heap.size w w' := by
  have hrun := Lib.run_convert_string_bytes (P := Tryd.prog) w 9 22 5 s Tryd.underlying9 Tryd.underlying22 Tryd.underlying5
  refine ⟨_, _, hrun, ⟨by rw [Lib.byteCells_length, Array.length_toList, Nat.mul_one]; rfl, .inr ⟨_, 0, _, rfl, Nat.le_refl _, by rw [Lib.bytesWorld_size]; omega, ?_, fun j u hj => ?_, fun j hj => ?_⟩⟩, Lib.bytesWorld_below w 5 s⟩
  · exact grownCap_ge w s.size 0 5
  · have hj' : j < s.data.toList.length := by have := (List.getElem?_eq_some_iff.1 hj).1; simpa [Lib.byteCells] using this
    rw [Nat.zero_add, (bytesAt_conv w 5 s j hj').1, ← byteCells_at _ j hj']
    exact hj
  · have hat := Lib.bytesWorld_at_new w 5 s
    have hge := grownCap_ge w s.size 0 5
    have hsz : (Lib.bytesCells w 5 s).size = grownCap w s.size 0 5 := by simp [Lib.bytesCells]; omega
    rw [Nat.mul_one] at hj
    rw [Nat.zero_add]
    refine ⟨?_, ?_⟩
    · simp only [World.cell?, hat]
      rw [Array.getElem?_eq_getElem (by rw [hsz]; exact hj)]; rfl
    · simp only [World.frozen?, hat, hsz]
      simp
      omega

set_option maxRecDepth 100000 in
set_option maxHeartbeats 800000 in
theorem literal_any (p : Option Addr) (cap : Nat) (l : List UInt8) (w : World) (h : Bys w w.heap.size p l) (hl : l.length ≤ 1048576) (hcap : l.length ≤ cap) (hS : Std w) :
    Calls Tryd.prog 15 #[.slice p l.length cap] w (RetB w (litB l)) := by
  have H := Lib.hid (decimal_any l.length w (by omega) hS)
  have hD : (ofL (Lib.decDigits l.length)).size ≤ 10 := decDigits_len l.length (by omega)
  generalize hDD : ofL (Lib.decDigits l.length) = D at H hD
  have HD := Lib.hid hDD
  clear hDD hS
  go_enter Tryd.func15, Tryd.ntmps15
  go_wp2_with fail
  refine H.out.mono ?_
  rintro e w1 ⟨rfl, hb1⟩
  go_wp2_with fail
  obtain ⟨n, hn⟩ : ∃ n, D.size + 4 + l.length = n := ⟨_, rfl⟩
  rw [make_row n (by omega) w1 _ (by omega)]
  simp only [Result.andThen]
  rw [Oper.upon_value]
  generalize hh : (({ data := #[123] } : ByteArray) ++ D ++ { data := #[125] } ++ { data := #[13, 10] }) = s
  have hsd : s.data.toList = litH l.length := by
    rw [← hh, ← HD.out]
    simp only [ByteArray.data_append, Array.toList_append, ofL_data]
    simp [litH]
  have hss : s.size = D.size + 4 := by rw [← hh]; simp only [ByteArray.size_append]; show 1 + D.size + 1 + 2 = _; omega
  clear hh
  have hr0 := row_new w1 (List.replicate n (0 : UInt8))
  have hB0 : Below w.heap.size w (w1.alloc (.cells (Lib.byteCells (List.replicate n (0 : UInt8))).toArray 5)) := hb1.alloc hb1.size _
  generalize hW : w1.alloc (.cells (Lib.byteCells (List.replicate n (0 : UInt8))).toArray 5) = W at hr0 hB0
  clear hW
  generalize hg : w1.heap.size = g at hr0
  have hgw : w.heap.size ≤ g := by rw [← hg]; exact hb1.size
  clear hg
  have e0 : List.replicate n (0 : UInt8) = [] ++ List.replicate s.size 0 ++ List.replicate l.length 0 := by
    rw [List.nil_append, ← hn, ← hss, List.replicate_append_replicate]
  rw [e0] at hr0
  have hc1 := fun ty => copy_str W ty g 0 n n s [] (List.replicate s.size 0) (List.replicate l.length 0) hr0 rfl (by simp) (by omega)
  have hr1 := row_set hr0 ([] ++ s.data.toList ++ List.replicate l.length 0)
  have hB1 := below_setRow hB0 hgw (Lib.byteCells ([] ++ s.data.toList ++ List.replicate l.length 0)).toArray
  generalize W.setRow g (Lib.byteCells ([] ++ s.data.toList ++ List.replicate l.length 0)).toArray = W1 at hc1 hr1 hB1
  have h1 := h.below hB1
  by_cases h0 : 0 < l.length
  · have hc2 := fun ty => copy_bys W1 ty g s.size l.length l.length p w.heap.size cap l s.data.toList (List.replicate l.length 0) [] (by simpa using hr1) (by simp) (by simp) (Nat.le_refl _) h1 h0
    have hr2 := row_set hr1 (s.data.toList ++ l ++ [])
    have hB2 := below_setRow hB1 hgw (Lib.byteCells (s.data.toList ++ l ++ [])).toArray
    generalize W1.setRow g (Lib.byteCells (s.data.toList ++ l ++ [])).toArray = W2 at hc2 hr2 hB2
    clear hr1 hB1 hr0 hB0 h h1 e0 hb1
    rw [List.append_nil, hsd] at hr2
    have HR2 : Hid (Row W2 g (litB l)) := Lib.hid hr2
    have hlen : (litB l).length = n := by
      have : (litH l.length).length = s.size := by rw [← hsd]; simp
      show (litH l.length ++ l).length = n
      rw [List.length_append, this]; omega
    have HLEN := Lib.hid hlen
    have HSS := Lib.hid hss
    have hns : n - s.size = l.length := by omega
    have HN := Lib.hid hn
    clear hr2 hlen hsd hss hn
    have hsn : s.size < n := by omega
    have hne : ¬ n = s.size := by omega
    go_wp2_with (first
      | (with_reducible refine wpList_copy_run rfl (.tmp 19) (.tmp 20) _ _ rfl _ _ rfl rfl _ _ (hc1 _) ?_)
      | (with_reducible refine wpList_copy_run rfl (.tmp 22) (.tmp 23) _ _ rfl _ _ rfl rfl _ _ (hc2 _) ?_))
    go_ret
    have hfin := retB_row (W := w) HR2.out hgw rfl hB2
    rw [HLEN.out] at hfin
    exact hfin
  · have hl0 : l = [] := List.eq_nil_of_length_eq_zero (by omega)
    subst hl0
    have hns : n = s.size := by rw [hss, ← hn]; rfl
    subst hns
    have hc2 := fun ty a c => run_copy_none (P := Tryd.prog) W1 22 22 ty 5 a p 0 c 0 cap Tryd.underlying22 u8size rfl
    have HR1 : Hid (Row W1 g (litB [])) := Lib.hid (by
      have := hr1
      rw [hsd] at this
      simpa [litB] using this)
    have hlen : (litB []).length = s.size := by
      have : (litH 0).length = s.size := by rw [← show s.data.toList.length = s.size by simp, hsd]; rfl
      simpa [litB] using this
    have HLEN := Lib.hid hlen
    clear hr1 hr0 hB0 h h1 e0 hb1 hlen hsd hss hn h0 hcap hl
    go_wp2_with (first
      | (with_reducible refine wpList_copy_run rfl (.tmp 19) (.tmp 20) _ _ rfl _ _ rfl rfl _ _ (hc1 _) ?_)
      | (with_reducible refine wpList_copy_run rfl (.tmp 22) (.tmp 23) _ _ rfl _ _ rfl rfl _ _ (hc2 _ _ _) ?_))
    go_ret
    have hfin := retB_row (W := w) HR1.out hgw rfl hB1
    rw [HLEN.out] at hfin
    exact hfin

theorem lit_str (D : ByteArray) (n : Nat) (h : D = ofL (Lib.decDigits n)) : (({ data := #[123] } : ByteArray) ++ D ++ { data := #[125, 13, 10] }).data.toList = litH n := by
  subst h
  simp only [ByteArray.data_append, Array.toList_append, ofL_data]
  simp [litH]

set_option maxRecDepth 100000 in
set_option maxHeartbeats 800000 in
theorem rLiteral_any (p : Option Addr) (cap : Nat) (l : List UInt8) (w : World) (h : Bys w w.heap.size p l) (hl : l.length ≤ 1048576) :
    Calls Tryd.prog 16 #[.slice p l.length cap] w (RetB w (litB l)) := by
  have H := Lib.hid (rDecimal_any l.length w (by omega))
  have hD : (ofL (Lib.decDigits l.length)).size ≤ 10 := decDigits_len l.length (by omega)
  have hls := lit_str (ofL (Lib.decDigits l.length)) l.length rfl
  generalize ofL (Lib.decDigits l.length) = D at H hD hls
  generalize hs : (({ data := #[123] } : ByteArray) ++ D ++ { data := #[125, 13, 10] }) = s at hls
  have hsz : s.size ≤ 14 := by rw [← hs]; simp only [ByteArray.size_append]; show 1 + D.size + 3 ≤ 14; omega
  obtain ⟨v, w1, hrun, hbuf, hbw⟩ := conv_new w s
  obtain ⟨i0, hi, hz0, hz1, hz2⟩ := info_parts infoU8
  have hsl : s.size = s.data.toList.length := by simp
  have hmx : s.size + l.length ≤ maxLen := by unfold maxLen; omega
  obtain ⟨v2, w2, hrun2, hbuf2, hgr, _⟩ := run_append_buf (P := Tryd.prog) w1 22 22 5 i0 (.int .u8 0) 1 1 Tryd.underlying22 hi hz0 hz1 hz2 rfl (by decide) w.heap.size v s.size _ hbuf p l.length cap _ (src_bys (h.below hbw)) hmx (by omega) hbw.size
  rw [← byteCells_app, hls] at hbuf2
  have hlen : (litB l).length = s.size + l.length := by rw [hsl, hls]; simp [litB]
  have hfin : RetB w (litB l) (.returned v2) w2 := ⟨v2, rfl, by rw [hlen]; exact hbuf2, hbw.grown hgr hbw.size (fun k hk => by
    rcases hbuf.2 with ⟨rfl, _⟩ | ⟨g, off, c, rfl, hg, _⟩
    · simp [Value.ownBlock] at hk
    · simp only [Value.ownBlock, Option.some.injEq] at hk; omega)⟩
  have HF := Lib.hid hfin
  clear hbuf hbuf2 hbw hfin hgr hlen hls hsl hmx h
  have HR := Lib.hid hrun
  have HR2 := Lib.hid hrun2
  clear hrun hrun2
  go_enter Tryd.func16, Tryd.ntmps16
  go_wp2_with fail
  refine H.out.mono ?_
  rintro e w3 ⟨rfl, rfl⟩
  go_wp2_with fail
  rw [HR.out]
  simp only [Result.andThen]
  rw [Oper.upon_value]
  go_wp2_with (at_builtin; refine wpList_append_run _ rfl (.tmp 9) (.tmp 10) _ _ rfl _ _ rfl rfl _ _ HR2.out ?_)
  go_ret
  exact HF.out

theorem best_spec {l : List UInt8} {x : List UInt8} (h : quoB l = some x) : bestB l = x := by unfold bestB; rw [h]; rfl
theorem best_spec' {l : List UInt8} (h : quoB l = none) : bestB l = litB l := by unfold bestB; rw [h]; rfl
theorem quoV_none : quoV none = .tuple #[.string ⟨#[]⟩, .bool false] := rfl
theorem quoV_some (x : List UInt8) : quoV (some x) = .tuple #[.string (ofL x), .bool true] := rfl

set_option maxRecDepth 100000 in
set_option maxHeartbeats 800000 in
theorem best_any (p : Option Addr) (cap : Nat) (l : List UInt8) (w : World) (h : Bys w w.heap.size p l) (hl : l.length ≤ 1048576) (hcap : l.length ≤ cap) (hS : Std w) :
    Calls Tryd.prog 17 #[.slice p l.length cap] w (RetB w (bestB l)) := by
  have H := Lib.hid (quoted_any p cap l w h hl)
  cases hq : quoB l with
  | none =>
    have hL : Hid (∀ w1, Below w.heap.size w w1 → Calls Tryd.prog 15 #[.slice p l.length cap] w1 (RetB w (bestB l))) := Lib.hid fun w1 hb => by
      rw [best_spec' hq]
      refine (literal_any p cap l w1 ((h.below hb).more hb.size) hl hcap (hS.below hb)).mono ?_
      rintro e w2 ⟨v, rfl, hbuf, hbw⟩
      exact ⟨v, rfl, hbuf.mono hb.size, hb.trans (hbw.mono hb.size)⟩
    simp only [hq, quoV_none] at H
    clear hq h hS
    go_enter Tryd.func17, Tryd.ntmps17
    go_wp2_with fail
    refine H.out.mono ?_
    rintro e w1 ⟨rfl, hb⟩
    go_wp2_with fail
    refine (hL.out _ hb).mono ?_
    rintro e w2 hR
    have HR := Lib.hid hR
    obtain ⟨v, rfl, -, -⟩ := hR
    go_wp2_with fail
    go_ret
    exact HR.out
  | some x =>
    have hx := best_spec hq
    simp only [hq, quoV_some] at H
    clear hq h hS
    rw [hx]
    go_enter Tryd.func17, Tryd.ntmps17
    go_wp2_with fail
    refine H.out.mono ?_
    rintro e w1 ⟨rfl, hb⟩
    obtain ⟨v, w2, hrun, hbuf, hbw⟩ := conv_new w1 (ofL x)
    have HF : Hid (RetB w x (.returned v) w2) := Lib.hid ⟨v, rfl, hbuf.mono hb.size, hb.trans (hbw.mono hb.size)⟩
    have HR := Lib.hid hrun
    clear hrun hbuf hbw
    go_wp2_with fail
    rw [HR.out]
    simp only [Result.andThen]
    rw [Oper.upon_value]
    go_wp2_with fail
    go_ret
    exact HF.out

set_option maxRecDepth 100000 in
set_option maxHeartbeats 800000 in
theorem rBest_any (p : Option Addr) (cap : Nat) (l : List UInt8) (w : World) (h : Bys w w.heap.size p l) (hl : l.length ≤ 1048576) (hcap : l.length ≤ cap) :
    Calls Tryd.prog 18 #[.slice p l.length cap] w (RetB w (bestB l)) := by
  have H := Lib.hid (rQuoted_any p cap l w h hl hcap)
  cases hq : quoB l with
  | none =>
    have hL := Lib.hid (rLiteral_any p cap l w h hl)
    rw [best_spec' hq]
    simp only [hq, quoV_none] at H
    clear hq h
    go_enter Tryd.func18, Tryd.ntmps18
    go_wp2_with fail
    refine H.out.mono ?_
    rintro e w1 ⟨rfl, rfl⟩
    go_wp2_with fail
    refine hL.out.mono ?_
    rintro e w2 hR
    have HR := Lib.hid hR
    obtain ⟨v, rfl, -, -⟩ := hR
    go_wp2_with fail
    go_ret
    exact HR.out
  | some x =>
    have hx := best_spec hq
    simp only [hq, quoV_some] at H
    clear hq h
    rw [hx]
    go_enter Tryd.func18, Tryd.ntmps18
    go_wp2_with fail
    refine H.out.mono ?_
    rintro e w1 ⟨rfl, rfl⟩
    obtain ⟨v, w2, hrun, hbuf, hbw⟩ := conv_new w1 (ofL x)
    have HF : Hid (RetB w1 x (.returned v) w2) := Lib.hid ⟨v, rfl, hbuf, hbw⟩
    have HR := Lib.hid hrun
    clear hrun hbuf hbw
    go_wp2_with fail
    rw [HR.out]
    simp only [Result.andThen]
    rw [Oper.upon_value]
    go_wp2_with fail
    go_ret
    exact HF.out
end Go.Proofs.YthoccgkkgnlbpaaDoor
