/- Plain laws on views: what events do, by the program's way and by the reference's. Plain laws: the reference's list of identifiers does as the index. -/
import Derived.Test.YtponmnabbieafaaGreatDoorPosU
set_option linter.unusedVariables false
set_option linter.unusedSimpArgs false
namespace Go.Proofs.YtponmnabbieafaaGreatDoor
open Go Go.Lib

structure Ev where
  kind : Int
  uid : Nat
  fl : Nat
structure Rp where
  kind : Int
  n : Nat
  items : Int
  fl : Nat
def cntR (vl : List Int) : Rp := ⟨1, vl.length, 0, 0⟩
def expR (p : Nat) : Rp := ⟨3, p, 0, 0⟩
def fetR (p fl : Nat) : Rp := ⟨4, p, 1, fl⟩
/-- Whether an identifier is appended. -/
def appB (vl : List Int) (u : Int) : Bool := decide (u ≠ 0 ∧ cntU vl u = vl.length)
def cutU (vl : List Int) (u : Int) : List Int := if 0 < posU vl u then vl.eraseIdx (posU vl u - 1) else vl
/-- A list, whether it has grown, the responses so far. -/
abbrev VSt := (List Int × Bool) × List Rp
def tellV (s : VSt) : VSt := ((s.1.1, false), s.2 ++ if s.1.2 then [cntR s.1.1] else [])
def evV (vl : List Int) (e : Ev) : List Rp :=
  if e.kind = 2 then (if 0 < posU vl e.uid then [expR (posU vl e.uid)] else [])
  else if e.kind = 3 then (if 0 < posU vl e.uid then [fetR (posU vl e.uid) e.fl] else []) else []
def evP (s : VSt) (e : Ev) : VSt :=
  if e.kind = 1 then ((if appB s.1.1 e.uid then s.1.1 ++ [(e.uid : Int)] else s.1.1, s.1.2 || appB s.1.1 e.uid), s.2)
  else ((if e.kind = 2 then cutU s.1.1 e.uid else s.1.1, false), (tellV s).2 ++ evV s.1.1 e)
def runV (s : VSt) (l : List Ev) : VSt := l.foldl evP s
theorem runV_next {s : VSt} {l : List Ev} {k : Nat} (h : k < l.length) : runV s (l.take (k + 1)) = evP (runV s (l.take k)) l[k] := by
  unfold runV
  rw [List.take_succ_eq_append_getElem h, List.foldl_append]
  rfl
/-- The whole of Apply: its list, whether it has grown, the responses. -/
def applyV (s : List Int × Bool) (l : List Ev) : VSt := tellV (runV (s, []) l)

/-- Behind event k: no event more, or one of another kind. -/
def lastA (l : List Ev) (k : Nat) : Bool := match l[k]? with | none => true | some e => decide (e.kind ≠ 1)
def evR (l : List Ev) (k : Nat) (s : VSt) (e : Ev) : VSt :=
  if e.kind = 1 then
    let vl := if appB s.1.1 e.uid then s.1.1 ++ [(e.uid : Int)] else s.1.1
    let g := s.1.2 || appB s.1.1 e.uid
    if g && lastA l (k + 1) then ((vl, false), s.2 ++ [cntR vl]) else ((vl, g), s.2)
  else ((if e.kind = 2 then cutU s.1.1 e.uid else s.1.1, s.1.2), s.2 ++ evV s.1.1 e)
def runR (vl : List Int) (l : List Ev) : Nat → VSt
  | 0 => ((vl, false), [])
  | k + 1 => match l[k]? with | none => runR vl l k | some e => evR l k (runR vl l k) e
theorem runR_next (vl : List Int) (l : List Ev) {k : Nat} (h : k < l.length) : runR vl l (k + 1) = evR l k (runR vl l k) l[k] := by
  show (match l[k]? with | none => runR vl l k | some e => evR l k (runR vl l k) e) = _
  rw [List.getElem?_eq_getElem h]
theorem runs_same (vl : List Int) (l : List Ev) : ∀ k, k ≤ l.length → runR vl l k = (((runV ((vl, false), []) (l.take k)).1.1, (runV ((vl, false), []) (l.take k)).1.2 && !lastA l k), (runV ((vl, false), []) (l.take k)).2 ++ if (runV ((vl, false), []) (l.take k)).1.2 && lastA l k then [cntR (runV ((vl, false), []) (l.take k)).1.1] else []) := by
  intro k
  induction k with
  | zero => intro _; simp [runR, runV]
  | succ k ih =>
    intro hk
    have hk' : k < l.length := hk
    rw [runR_next vl l hk', ih (by omega), runV_next hk']
    generalize runV ((vl, false), []) (l.take k) = s
    obtain ⟨⟨v, g⟩, out⟩ := s
    have hl : lastA l k = decide (l[k].kind ≠ 1) := by unfold lastA; rw [List.getElem?_eq_getElem hk']
    by_cases h1 : l[k].kind = 1
    · have hlf : lastA l k = false := by rw [hl]; simp [h1]
      unfold evR evP
      simp only [if_pos h1, hlf]
      cases g <;> cases appB v l[k].uid <;> cases lastA l (k + 1) <;> simp
    · have hlt : lastA l k = true := by rw [hl]; simp [h1]
      unfold evR evP tellV
      simp only [if_neg h1, hlt]
      cases g <;> simp
theorem apply_ref (vl : List Int) (l : List Ev) : ((runR vl l l.length).1.1, (runR vl l l.length).2) = ((applyV (vl, false) l).1.1, (applyV (vl, false) l).2) := by
  rw [runs_same vl l l.length (Nat.le_refl _)]
  have : lastA l l.length = true := by unfold lastA; rw [List.getElem?_eq_none (Nat.le_refl _)]
  rw [List.take_length, this]
  unfold applyV tellV
  simp
/-- The kinds that a response of a view may have, and what a client makes of it. -/
def folR (n : Nat) (r : Rp) : Nat × Bool :=
  if r.kind = 1 then (max n r.n, decide (n ≤ r.n)) else if r.kind = 3 then (if 0 < r.n ∧ r.n ≤ n then (n - 1, true) else (n, false)) else (n, decide (0 < r.n ∧ r.n ≤ n))
theorem appB_asc {vl : List Int} (h : asc vl) {u : Int} (ha : appB vl u = true) : asc (vl ++ [u]) := by
  unfold appB at ha
  rw [decide_eq_true_eq] at ha
  refine asc_append.2 ⟨h, by simp [asc], fun a hav b hb => ?_⟩
  rw [List.mem_singleton] at hb
  subst hb
  have := List.countP_eq_length.1 ha.2 a hav
  simpa using this
theorem cutU_asc {vl : List Int} (h : asc vl) (u : Int) : asc (cutU vl u) := by
  unfold cutU
  split
  · exact List.Pairwise.sublist (List.eraseIdx_sublist _ _) h
  · exact h
theorem evP_asc {s : VSt} (h : asc s.1.1) (e : Ev) : asc (evP s e).1.1 := by
  unfold evP
  split
  · split
    · rename_i h1; exact appB_asc h h1
    · exact h
  · dsimp only
    split
    · exact cutU_asc h _
    · exact h
theorem cutU_len (vl : List Int) (u : Int) : (cutU vl u).length ≤ vl.length := by
  unfold cutU
  split
  · rw [List.length_eraseIdx]; split <;> omega
  · omega
theorem evP_len (s : VSt) (e : Ev) : (evP s e).1.1.length ≤ s.1.1.length + 1 ∧ (evP s e).2.length ≤ s.2.length + 2 := by
  unfold evP
  split
  · refine ⟨?_, by dsimp only; omega⟩
    dsimp only
    split
    · simp
    · omega
  · refine ⟨?_, ?_⟩
    · dsimp only
      split
      · have := cutU_len s.1.1 e.uid; omega
      · omega
    · dsimp only [tellV]
      rw [List.length_append, List.length_append]
      have h1 : (if s.1.2 then [cntR s.1.1] else []).length ≤ 1 := by split <;> simp
      have h2 : (evV s.1.1 e).length ≤ 1 := by
        unfold evV
        repeat (first | split | simp)
      omega
theorem runV_facts {s : VSt} (h : asc s.1.1) (l : List Ev) : asc (runV s l).1.1 ∧ (runV s l).1.1.length ≤ s.1.1.length + l.length ∧ (runV s l).2.length ≤ s.2.length + 2 * l.length := by
  induction l generalizing s with
  | nil => exact ⟨h, by simp [runV], by simp [runV]⟩
  | cons e l ih =>
    obtain ⟨i1, i2, i3⟩ := ih (s := evP s e) (evP_asc h e)
    have hl := evP_len s e
    refine ⟨i1, ?_, ?_⟩
    · show (runV (evP s e) l).1.1.length ≤ _
      simp only [List.length_cons]
      omega
    · show (runV (evP s e) l).2.length ≤ _
      simp only [List.length_cons]
      omega
/-- All elements of the list are identifiers. -/
def uidL (vl : List Int) : Prop := ∀ x ∈ vl, 0 < x ∧ x < 4294967296
theorem evP_uids {s : VSt} (h : uidL s.1.1) (e : Ev) (he : e.uid < 4294967296) : uidL (evP s e).1.1 := by
  unfold evP
  split
  · split
    · rename_i h1
      intro x hx
      rw [List.mem_append, List.mem_singleton] at hx
      rcases hx with hx | hx
      · exact h x hx
      · subst hx
        unfold appB at h1
        rw [decide_eq_true_eq] at h1
        have := h1.1
        omega
    · exact h
  · dsimp only
    split
    · unfold cutU
      split
      · exact fun x hx => h x (List.mem_of_mem_eraseIdx hx)
      · exact h
    · exact h
theorem runV_uids {s : VSt} (h : uidL s.1.1) (l : List Ev) (hl : ∀ e ∈ l, e.uid < 4294967296) : uidL (runV s l).1.1 := by
  induction l generalizing s with
  | nil => exact h
  | cons e l ih => exact ih (s := evP s e) (evP_uids h e (hl e (List.mem_cons_self ..))) (fun e he => hl e (List.mem_cons_of_mem _ he))
/-- What a client makes of a list of responses; whether all were right. -/
def folL (n : Nat) : List Rp → Nat × Bool
  | [] => (n, true)
  | r :: l => if (folR n r).2 then folL (folR n r).1 l else ((folR n r).1, false)
theorem folL_app (n : Nat) (a b : List Rp) : folL n (a ++ b) = if (folL n a).2 then folL (folL n a).1 b else folL n a := by
  induction a generalizing n with
  | nil => simp [folL]
  | cons r a ih =>
    by_cases h : (folR n r).2 = true
    · have e1 : folL n (r :: a) = folL (folR n r).1 a := by simp [folL, h]
      have e2 : folL n (r :: (a ++ b)) = folL (folR n r).1 (a ++ b) := by simp [folL, h]
      rw [List.cons_append, e2, e1, ih]
    · have e1 : folL n (r :: a) = ((folR n r).1, false) := by simp [folL, h]
      have e2 : folL n (r :: (a ++ b)) = ((folR n r).1, false) := by simp [folL, h]
      rw [List.cons_append, e2, e1]
      simp
end Go.Proofs.YtponmnabbieafaaGreatDoor

namespace Go.Proofs.YtponmnabbieafaaGreatDoor
open Go Go.Lib

theorem cnt_all {x : List Int} {u : Int} : cntU x u = x.length ↔ ∀ y ∈ x, y < u := by
  unfold cntU
  rw [List.countP_eq_length]
  simp
/-- Append: the last element decides. -/
theorem appB_last {x : List Int} (h : asc x) (u : Int) (i : Nat) (z : Int) (hi : i + 1 = x.length) (hz : x[i]? = some z) : appB x u = (decide (u ≠ 0) && decide (z < u)) := by
  obtain ⟨hl, rfl⟩ := List.getElem?_eq_some_iff.1 hz
  unfold appB
  rw [Bool.eq_iff_iff, decide_eq_true_eq, Bool.and_eq_true, decide_eq_true_eq, decide_eq_true_eq, cnt_all]
  refine and_congr_right fun _ => ⟨fun h1 => h1 _ (List.getElem_mem hl), fun h1 y hy => ?_⟩
  obtain ⟨j, hj, rfl⟩ := List.mem_iff_getElem.1 hy
  rcases Nat.lt_or_ge j i with hji | hji
  · have := List.pairwise_iff_getElem.1 h j i hj hl hji
    omega
  · obtain rfl : j = i := by omega
    exact h1
theorem appB_nil (u : Int) : appB [] u = decide (u ≠ 0) := by unfold appB cntU; simp
theorem erase_filter : ∀ {x : List Int} {i : Nat} {u : Int}, asc x → x[i]? = some u → x.eraseIdx i = x.filter fun y => decide (y ≠ u)
  | y :: x, 0, u, h, hi => by
    have e : y = u := by simpa using hi
    subst e
    rw [List.eraseIdx_cons_zero, List.filter_cons_of_neg (by simp)]
    refine (List.filter_eq_self.2 fun z hz => ?_).symm
    have := (List.pairwise_cons.1 h).1 z hz
    simp
    omega
  | y :: x, i + 1, u, h, hi => by
    have hi2 : x[i]? = some u := by simpa using hi
    have hy := (List.pairwise_cons.1 h).1 u (List.mem_of_getElem? hi2)
    rw [List.eraseIdx_cons_succ, List.filter_cons_of_pos (by simp; omega), erase_filter (List.pairwise_cons.1 h).2 hi2]
theorem cut_filter {x : List Int} (h : asc x) (u : Int) : cutU x u = x.filter fun y => decide (y ≠ u) := by
  unfold cutU
  by_cases hp : 0 < posU x u
  · rw [if_pos hp]
    exact erase_filter h (pos_in hp).2.2
  · rw [if_neg hp]
    refine (List.filter_eq_self.2 fun z hz => ?_).symm
    simp only [ne_eq, decide_not, Bool.not_eq_eq_eq_not, Bool.not_true, decide_eq_false_iff_not]
    rintro rfl
    exact hp (pos_pos h hz)
end Go.Proofs.YtponmnabbieafaaGreatDoor
