/- The walk of slices.Clone over bytes. · Plain laws on flags: their names, the sets, what a list denotes. · Plain laws on responses: their forms, which are valid, and that a form tells its response. · The walk of flag.Each: the single flags of a set. · A map that the call itself has made, known entry by entry: made, stored into, looked up, for elements of whatever kind. · strings.Fields at an ASCII string. -/
import Derived.Test.YtgdhakkfddmkjaaDoorLawForms
import Derived.Lib.SliceRun
import Derived.Test.YtgdhakkfddmkjaaDoorJ0
import Derived.Lib.SplitLaws
import Derived.Test.YtgdhakkfddmkjaaDoorJ1
import Derived.Test.YtgdhakkfddmkjaaDoorJ3
import Derived.Maps.OwnOps
import Derived.Test.YtgdhakkfddmkjaaDoorShelf
set_option linter.unusedVariables false
set_option linter.unusedSimpArgs false
namespace Go.Proofs.YtgdhakkfddmkjaaDoor
open Go.RowKit

set_option maxRecDepth 100000 in
theorem clone_some (q : Addr) (cap n : Nat) (l : List UInt8) (hn : l.length = n) (w : World) (h : Bys w w.heap.size (some q) l) (hl : l.length ≤ 1048576) :
    Calls Tryd.prog 32 #[.slice (some q) n cap] w (RetB w l) := by
  subst hn
  obtain ⟨p2, c2, w1, hrun, hc2, hbuf, hb1⟩ := own_copy w (some q) cap l h hl
  have HR := Lib.hid hrun
  have HB := Lib.hid (And.intro hbuf hb1)
  have en := Lib.run_eql_slice_nil (P := Tryd.prog)
  clear h hl hrun hbuf hb1 hc2
  generalize hn : l.length = n at *
  have HN := Lib.hid hn
  clear hn
  go_enter Tryd.func32, Tryd.ntmps32
  go_wp2_with (at_builtin; refine wpList_append_run _ rfl (.tmp 5) (.tmp 6) _ _ rfl _ _ rfl rfl _ _ HR.out ?_)
  go_ret
  exact ⟨_, rfl, by rw [HN.out]; exact HB.out.1, HB.out.2⟩
set_option maxRecDepth 100000 in
theorem clone_nil (w : World) : Calls Tryd.prog 32 #[.slice none 0 0] w fun e w' => e = .returned (.slice none 0 0) ∧ w = w' := by
  have en := Lib.run_eql_slice_nil (P := Tryd.prog)
  go_enter Tryd.func32, Tryd.ntmps32
  go_wp2_with fail
  go_ret
  exact ⟨rfl, rfl⟩
end Go.Proofs.YtgdhakkfddmkjaaDoor
namespace Go.Proofs.YtgdhakkfddmkjaaDoor
open Go.Lib Go.RowKit

/-- The pieces of a list of bytes between a byte. -/
def splitOn (c : UInt8) : List UInt8 → List (List UInt8)
  | [] => [[]]
  | x :: l => if x = c then [] :: splitOn c l else match splitOn c l with
    | [] => [[x]]
    | h :: t => (x :: h) :: t
theorem splitOn_ne (c : UInt8) (l : List UInt8) : splitOn c l ≠ [] := by
  cases l with
  | nil => simp [splitOn]
  | cons x l =>
    unfold splitOn
    split
    · simp
    · split <;> simp
theorem splitOn_last {c : UInt8} : ∀ {a : List UInt8}, c ∉ a → splitOn c a = [a]
  | [], _ => rfl
  | x :: a, h => by
    have hx : ¬ x = c := fun e => h (by rw [e]; simp)
    unfold splitOn
    rw [if_neg hx, splitOn_last (fun hm => h (List.mem_cons_of_mem _ hm))]
theorem splitOn_hit {c : UInt8} {b : List UInt8} : ∀ {a : List UInt8}, c ∉ a → splitOn c (a ++ c :: b) = a :: splitOn c b
  | [], _ => by show splitOn c (c :: b) = _; rw [splitOn, if_pos rfl]
  | x :: a, h => by
    have hx : ¬ x = c := fun e => h (by rw [e]; simp)
    show splitOn c (x :: (a ++ c :: b)) = _
    rw [splitOn, if_neg hx, splitOn_hit (fun hm => h (List.mem_cons_of_mem _ hm))]
theorem split_first (c : UInt8) : ∀ l : List UInt8, c ∉ l ∨ ∃ a b, l = a ++ c :: b ∧ c ∉ a
  | [] => .inl (by simp)
  | x :: l => by
    by_cases hx : x = c
    · exact .inr ⟨[], l, by rw [hx]; rfl, by simp⟩
    · rcases split_first c l with h | ⟨a, b, rfl, ha⟩
      · exact .inl (by simp only [List.mem_cons, not_or]; exact ⟨fun e => hx e.symm, h⟩)
      · exact .inr ⟨x :: a, b, rfl, by simp only [List.mem_cons, not_or]; exact ⟨fun e => hx e.symm, ha⟩⟩
theorem index_miss {c : UInt8} : ∀ {l : List UInt8}, c ∉ l → index l [c] = -1
  | [], _ => by simp [index]
  | x :: l, h => by
    have hx : ¬ c = x := fun e => h (by rw [e]; simp)
    rw [index, index_miss (fun hm => h (List.mem_cons_of_mem _ hm))]
    simp [List.isPrefixOf, hx]
theorem index_at {c : UInt8} {b : List UInt8} : ∀ {a : List UInt8}, c ∉ a → index (a ++ c :: b) [c] = (a.length : Int)
  | [], _ => by show index (c :: b) [c] = _; rw [index]; simp [List.isPrefixOf]
  | x :: a, h => by
    have hx : ¬ c = x := fun e => h (by rw [e]; simp)
    show index (x :: (a ++ c :: b)) [c] = _
    rw [index, index_at (fun hm => h (List.mem_cons_of_mem _ hm))]
    have : ((a.length : Int) == -1) = false := by rw [beq_eq_false_iff_ne]; omega
    simp [List.isPrefixOf, hx, this]
theorem count_zero_of {c : UInt8} {l : List UInt8} (h : c ∉ l) : count l [c] = 0 := by rw [count_one, List.count_eq_zero]; exact h
theorem splitK_one (c : UInt8) : ∀ (k : Nat) (l : List UInt8), count l [c] = k → splitK [c] 0 k l = splitOn c l
  | 0, l, h => by
    rw [count_one, List.count_eq_zero] at h
    rw [splitOn_last h]; rfl
  | k + 1, l, h => by
    rcases split_first c l with hc | ⟨a, b, rfl, ha⟩
    · rw [count_zero_of hc] at h; omega
    · rw [splitOn_hit ha]
      have hb : count b [c] = k := by
        rw [count_one] at h ⊢
        rw [List.count_append, List.count_cons_self, List.count_eq_zero.2 ha] at h
        omega
      have hix := index_at (b := b) ha
      unfold splitK
      have hm : ((a.length : Int) == -1) = false := by rw [beq_eq_false_iff_ne]; omega
      rw [hix, hm]
      simp only [Bool.false_eq_true, if_false, Int.toNat_natCast, Nat.add_zero, List.length_cons, List.length_nil, Nat.zero_add]
      rw [List.take_left' rfl, show a ++ c :: b = (a ++ [c]) ++ b by simp, List.drop_left' (by simp), splitK_one c k b hb]
/-- strings.Split at one byte, in this text's words. -/
theorem splitB_one (c : UInt8) (s : ByteArray) : splitB ⟨#[c]⟩ 0 (countB s ⟨#[c]⟩) s = (splitOn c s.data.toList).map ofL := by
  have h1 : (splitB ⟨#[c]⟩ 0 (countB s ⟨#[c]⟩) s).map (·.data.toList) = splitOn c s.data.toList := by
    rw [splitB_data]; exact splitK_one c _ _ rfl
  rw [← h1, List.map_map]
  conv => lhs; rw [← List.map_id (splitB _ _ _ _)]
  exact List.map_congr_left fun x _ => (ofL_self x).symm
theorem splitOn_count (c : UInt8) (s : ByteArray) : countB s ⟨#[c]⟩ + 1 = (splitOn c s.data.toList).length := by
  rw [← splitB_all ⟨#[c]⟩ (by show 1 ≤ (1 : Nat); omega) 0 _ s rfl, splitB_one, List.length_map]

/-! ### the flags -/
def fnames : List (List UInt8) := [[92, 65, 110, 115, 119, 101, 114, 101, 100], [92, 70, 108, 97, 103, 103, 101, 100], [92, 68, 101, 108, 101, 116, 101, 100], [92, 83, 101, 101, 110], [92, 68, 114, 97, 102, 116]]
def fname (f : Nat) : List UInt8 := if f = 1 then fnames[0]! else if f = 2 then fnames[1]! else if f = 4 then fnames[2]! else if f = 8 then fnames[3]! else if f = 16 then fnames[4]! else []
/-- The single flags of a set, of the first k. -/
def eachTo (f k : Nat) : List Nat := ((List.range k).map fun i => f &&& 2 ^ i).filter fun x => !(x == 0)
def eachL (f : Nat) : List Nat := eachTo f 5
theorem eachTo_next (f k : Nat) : eachTo f (k + 1) = if f &&& 2 ^ k = 0 then eachTo f k else eachTo f k ++ [f &&& 2 ^ k] := by
  unfold eachTo
  rw [List.range_succ, List.map_append, List.filter_append]
  by_cases h : f &&& 2 ^ k = 0
  · rw [if_pos h]; simp [h]
  · rw [if_neg h]; simp [h]
theorem eachTo_le (f k : Nat) : (eachTo f k).length ≤ k := by
  have := List.length_filter_le (fun x => !(x == 0)) ((List.range k).map fun i => f &&& 2 ^ i)
  rw [List.length_map, List.length_range] at this
  exact this
theorem and_bits (f k : Nat) (hf : f < 256) (hk : k < 5) : bits .and .u8 (f : Int) (2 ^ k % 256 : Int) = ((f &&& 2 ^ k : Nat) : Int) := by
  have h : ∀ f : Fin 256, ∀ k : Fin 5, bits .and .u8 (f.val : Int) (2 ^ k.val % 256 : Int) = ((f.val &&& 2 ^ k.val : Nat) : Int) := by decide +kernel
  exact h ⟨f, hf⟩ ⟨k, hk⟩
theorem shl_bits (k : Nat) (hk : k < 5) : IntKind.u8.wrap (2 ^ k) = ((2 ^ k : Nat) : Int) := by
  have h : ∀ k : Fin 5, IntKind.u8.wrap (2 ^ k.val) = ((2 ^ k.val : Nat) : Int) := by decide +kernel
  exact h ⟨k, hk⟩
theorem or_bits (a b : Nat) (ha : a < 32) (hb : b < 32) : bits .or .u8 (a : Int) (b : Int) = ((a ||| b : Nat) : Int) ∧ bits .or .i64 (a : Int) (b : Int) = ((a ||| b : Nat) : Int) ∧ a ||| b < 32 := by
  have h : ∀ a b : Fin 32, bits .or .u8 (a.val : Int) (b.val : Int) = ((a.val ||| b.val : Nat) : Int) ∧ bits .or .i64 (a.val : Int) (b.val : Int) = ((a.val ||| b.val : Nat) : Int) ∧ a.val ||| b.val < 32 := by decide +kernel
  exact h ⟨a, ha⟩ ⟨b, hb⟩

/-- The flag with a name, in whatever case. -/
def flagTab : List (List UInt8 × Nat) := [(fnames[0]!.map upB, 1), (fnames[1]!.map upB, 2), (fnames[2]!.map upB, 4), (fnames[3]!.map upB, 8), (fnames[4]!.map upB, 16)]
def flagUp (u : List UInt8) : Option Nat := (flagTab.find? fun p => decide (u = p.1)).map (·.2)
def flagVal (wd : List UInt8) : Option Nat := flagUp (wd.map upB)
theorem flagVal_lt {wd : List UInt8} {v : Nat} (h : flagVal wd = some v) : v < 32 ∧ v ≠ 0 := by
  unfold flagVal flagUp at h
  rw [Option.map_eq_some_iff] at h
  obtain ⟨p, hp, rfl⟩ := h
  have hm := List.mem_of_find?_eq_some hp
  have : ∀ p ∈ flagTab, p.2 < 32 ∧ p.2 ≠ 0 := by decide +kernel
  exact this p hm
def foldF : List (List UInt8) → Nat → Option Nat
  | [], a => some a
  | w :: r, a => match flagVal w with
    | none => none
    | some v => foldF r (a ||| v)
/-- Parse. -/
def parseF (s : List UInt8) : Option Nat :=
  if s.head? = some 40 ∧ s.tail.getLast? = some 41 then
    (if s.tail.dropLast = [] then some 0 else foldF (splitOn 32 s.tail.dropLast) 0)
  else none
theorem foldF_lt : ∀ {L : List (List UInt8)} {a v : Nat}, a < 32 → foldF L a = some v → v < 32
  | [], a, v, ha, h => by injection h with h; omega
  | w :: r, a, v, ha, h => by
    unfold foldF at h
    cases hf : flagVal w with
    | none => rw [hf] at h; cases h
    | some x => rw [hf] at h; exact foldF_lt (or_bits a x ha (flagVal_lt hf).1).2.2 h
theorem parseF_lt {s : List UInt8} {v : Nat} (h : parseF s = some v) : v < 32 := by
  unfold parseF at h
  split at h
  · split at h
    · injection h with h; omega
    · exact foldF_lt (by omega) h
  · cases h
def joinF : List (List UInt8) → List UInt8
  | [] => []
  | [a] => a
  | a :: b :: r => a ++ 32 :: joinF (b :: r)
/-- List. -/
def listF (f : Nat) : List UInt8 := 40 :: (joinF ((eachL f).map fname) ++ [41])
theorem parse_list (f : Nat) (hf : f < 256) : parseF (listF f) = some (f % 32) := by
  have h : ∀ f : Fin 256, parseF (listF f.val) = some (f.val % 32) := by decide +kernel
  exact h ⟨f, hf⟩
end Go.Proofs.YtgdhakkfddmkjaaDoor
namespace Go.Proofs.YtgdhakkfddmkjaaDoor
open Go.Lib

structure Rsp where
  kind : Int
  n : Nat
  tag : List UInt8
  status : Int
  text : List UInt8
  items : Int
  flags : Nat
  uid : Nat
  size : Nat
  body : List UInt8

def hasI (x k : Int) : Bool := bits .and .i64 x k != 0
def itemsOf (b1 b2 b4 b16 : Bool) : Int := (if b1 then 1 else 0) + (if b2 then 2 else 0) + (if b4 then 4 else 0) + (if b16 then 16 else 0)
def wF (r : Rsp) : List UInt8 := [70, 76, 65, 71, 83, 32] ++ listF r.flags
def wU (r : Rsp) : List UInt8 := [85, 73, 68, 32] ++ decDigits r.uid
def wS (r : Rsp) : List UInt8 := [82, 70, 67, 56, 50, 50, 46, 83, 73, 90, 69, 32] ++ decDigits r.size
def wB (r : Rsp) : List UInt8 := [66, 79, 68, 89, 91, 93, 32] ++ litB r.body
def optW (b : Bool) (w : List UInt8) : List (List UInt8) := if b then [w] else []
def wordsR (r : Rsp) : List (List UInt8) := optW (hasI r.items 1) (wF r) ++ (optW (hasI r.items 2) (wU r) ++ (optW (hasI r.items 4) (wS r) ++ optW (hasI r.items 16) (wB r)))
def stW (s : Int) : List UInt8 := if s = 0 then [79, 75] else if s = 1 then [78, 79] else [66, 65, 68]
/-- The form of a response, without its end. -/
def lineR (r : Rsp) : List UInt8 :=
  if r.kind = 1 then [42, 32] ++ (decDigits r.n ++ [32, 69, 88, 73, 83, 84, 83])
  else if r.kind = 2 then [42, 32] ++ (decDigits r.n ++ [32, 82, 69, 67, 69, 78, 84])
  else if r.kind = 3 then [42, 32] ++ (decDigits r.n ++ [32, 69, 88, 80, 85, 78, 71, 69])
  else if r.kind = 4 then [42, 32] ++ (decDigits r.n ++ ([32, 70, 69, 84, 67, 72, 32, 40] ++ (joinF (wordsR r) ++ [41])))
  else if r.kind = 5 then [42, 32, 70, 76, 65, 71, 83, 32] ++ listF 31
  else if r.kind = 6 then [42, 32, 79, 75, 32] ++ r.text
  else if r.kind = 7 then [42, 32, 66, 89, 69, 32] ++ r.text
  else if r.kind = 8 then [42, 32, 66, 65, 68, 32] ++ r.text
  else if r.kind = 9 then r.tag ++ (32 :: (stW r.status ++ (32 :: r.text)))
  else if r.kind = 10 then [43, 32] ++ r.text
  else []
def formR (r : Rsp) : List UInt8 := lineR r ++ [13, 10]
def sameR (a b : Rsp) : Prop := a.kind = b.kind ∧ a.n = b.n ∧ a.tag = b.tag ∧ a.status = b.status ∧ a.text = b.text ∧ a.items = b.items ∧ a.flags = b.flags ∧ a.uid = b.uid ∧ a.size = b.size ∧ a.body = b.body
def zeroR (k : Int) : Rsp := ⟨k, 0, [], 0, [], 0, 0, 0, 0, []⟩
/-- The fields that occur in the form; whether what occurs has its right form. -/
def maskR (r : Rsp) : Rsp :=
  if r.kind = 1 ∨ r.kind = 2 ∨ r.kind = 3 then { zeroR r.kind with n := r.n }
  else if r.kind = 4 then ⟨r.kind, r.n, [], 0, [], itemsOf (hasI r.items 1) (hasI r.items 2) (hasI r.items 4) (hasI r.items 16), if hasI r.items 1 then r.flags else 0, if hasI r.items 2 then r.uid else 0, if hasI r.items 4 then r.size else 0, if hasI r.items 16 then r.body else []⟩
  else if r.kind = 5 then zeroR r.kind
  else if r.kind = 9 then { zeroR r.kind with tag := r.tag, status := r.status, text := r.text }
  else { zeroR r.kind with text := r.text }
def txtL (l : List UInt8) : Bool := !l.isEmpty && l.all fun b => textB b.toNat
def tagL (l : List UInt8) : Bool := !l.isEmpty && l.all fun b => tagB b.toNat
def rightR (r : Rsp) : Prop :=
  (r.kind = 1 ∨ r.kind = 2 ∨ r.kind = 3 ∨ r.kind = 5) ∨
  (r.kind = 4 ∧ itemsOf (hasI r.items 1) (hasI r.items 2) (hasI r.items 4) (hasI r.items 16) ≠ 0 ∧ r.flags ≤ 31 ∧ r.body.length ≤ 65536) ∨
  ((r.kind = 6 ∨ r.kind = 7 ∨ r.kind = 8 ∨ r.kind = 10) ∧ txtL r.text = true) ∨
  (r.kind = 9 ∧ tagL r.tag = true ∧ txtL r.text = true ∧ 0 ≤ r.status ∧ r.status ≤ 2)
def ValidR (r : Rsp) : Prop := rightR r ∧ sameR (maskR r) r

/-- The words joined, up to the bracket; and what follows a word. -/
def jW (ws : List (List UInt8)) : List UInt8 := joinF ws ++ [41]
def nxW (ws : List (List UInt8)) : List UInt8 := if ws = [] then [41] else 32 :: jW ws
theorem jW_cons (w : List UInt8) (ws : List (List UInt8)) : jW (w :: ws) = w ++ nxW ws := by
  cases ws with
  | nil => simp [jW, nxW, joinF]
  | cons a r => simp [jW, nxW, joinF]
theorem nxW_inj {a b : List (List UInt8)} (h : nxW a = nxW b) : jW a = jW b := by
  unfold nxW at h
  split at h
  · split at h
    · rename_i h1 h2; rw [h1, h2]
    · cases h
  · split at h
    · cases h
    · injection h
theorem nxW_head (ws : List (List UInt8)) : ∃ c r, nxW ws = c :: r ∧ digitB c = false := by
  unfold nxW
  split
  · exact ⟨41, [], rfl, by decide⟩
  · exact ⟨32, _, rfl, by decide⟩
theorem dec_inj {a b : Nat} (h : decDigits a = decDigits b) : a = b := by rw [← (val_dec a).1, h, (val_dec b).1]
theorem takeWhile_stop {p : UInt8 → Bool} {c : UInt8} {r : List UInt8} (hc : p c = false) : ∀ l : List UInt8, l.all p = true → (l ++ c :: r).takeWhile p = l
  | [], _ => by simp [List.takeWhile, hc]
  | x :: l, h => by
    simp only [List.all_cons, Bool.and_eq_true] at h
    simp only [List.cons_append, List.takeWhile, h.1, takeWhile_stop hc l h.2]
theorem dec_cut {a b : Nat} {c d : UInt8} {x y : List UInt8} (hc : digitB c = false) (hd : digitB d = false) (h : decDigits a ++ c :: x = decDigits b ++ d :: y) : a = b ∧ c :: x = d :: y := by
  have h1 := congrArg (List.takeWhile digitB) h
  rw [takeWhile_stop hc _ (val_dec a).2, takeWhile_stop hd _ (val_dec b).2] at h1
  rw [h1] at h
  exact ⟨dec_inj h1, List.append_cancel_left h⟩
theorem listF_tab : ∀ f g : Fin 32, (listF f.val).isPrefixOf (listF g.val) = true → f = g := by decide +kernel
theorem listF_cut {f g : Nat} (hf : f < 32) (hg : g < 32) {x y : List UInt8} (h : listF f ++ x = listF g ++ y) : f = g ∧ x = y := by
  have e : f = g := by
    have h1 : listF f <+: listF g ++ y := ⟨x, h⟩
    have h2 : listF g <+: listF g ++ y := ⟨y, rfl⟩
    rcases Nat.le_total (listF f).length (listF g).length with hl | hl
    · have := listF_tab ⟨f, hf⟩ ⟨g, hg⟩ (List.isPrefixOf_iff_prefix.2 (List.prefix_of_prefix_length_le h1 h2 hl))
      exact congrArg Fin.val this
    · have := listF_tab ⟨g, hg⟩ ⟨f, hf⟩ (List.isPrefixOf_iff_prefix.2 (List.prefix_of_prefix_length_le h2 h1 hl))
      exact (congrArg Fin.val this).symm
  subst e
  exact ⟨rfl, List.append_cancel_left h⟩
theorem litB_cut {u v x y : List UInt8} (h : litB u ++ x = litB v ++ y) : u = v ∧ x = y := by
  unfold litB litH at h
  simp only [List.cons_append, List.append_assoc, List.nil_append, List.cons.injEq, true_and] at h
  obtain ⟨h1, h2⟩ := dec_cut (by decide) (by decide) h
  simp only [List.cons.injEq, true_and] at h2
  exact List.append_inj h2 h1
/-- One word, there or not. -/
theorem stageW {c : UInt8} {wa wb : List UInt8} {ba bb : Bool} {ra rb : List (List UInt8)} {E : Prop} (ha : wa.head? = some c) (hb : wb.head? = some c) (hra : (jW ra).head? ≠ some c) (hrb : (jW rb).head? ≠ some c)
    (cut : nxW ra ≠ [] → wa ++ nxW ra = wb ++ nxW rb → E ∧ nxW ra = nxW rb) (h : jW (optW ba wa ++ ra) = jW (optW bb wb ++ rb)) : ba = bb ∧ (ba = true → E) ∧ jW ra = jW rb := by
  have hd : ∀ (w : List UInt8) (r : List UInt8), w.head? = some c → (w ++ r).head? = some c := by
    intro w r hw
    cases w with
    | nil => cases hw
    | cons a l => exact hw
  cases ba <;> cases bb
  · exact ⟨rfl, fun h => (by cases h), h⟩
  · exfalso
    simp only [optW, if_true, List.cons_append, List.nil_append, jW_cons] at h
    apply hra
    have : jW ra = wb ++ nxW rb := h
    rw [this]; exact hd _ _ hb
  · exfalso
    simp only [optW, if_true, List.cons_append, List.nil_append, jW_cons] at h
    apply hrb
    have : jW rb = wa ++ nxW ra := h.symm
    rw [this]; exact hd _ _ ha
  · simp only [optW, if_true, List.cons_append, List.nil_append, jW_cons] at h
    obtain ⟨e, h2⟩ := cut (by obtain ⟨c, r, e, _⟩ := nxW_head ra; rw [e]; simp) h
    exact ⟨rfl, fun _ => e, nxW_inj h2⟩
theorem jW_head (ws : List (List UInt8)) (c : UInt8) (h1 : c ≠ 41) (h2 : ∀ w ∈ ws, w.head? ≠ some c ∧ w ≠ []) : (jW ws).head? ≠ some c := by
  cases ws with
  | nil => intro h; injection h with h; exact h1 h.symm
  | cons w r =>
    rw [jW_cons]
    obtain ⟨h3, h4⟩ := h2 w (by simp)
    cases w with
    | nil => exact absurd rfl h4
    | cons a l => exact h3
theorem optW_mem {b : Bool} {w x : List UInt8} (h : x ∈ optW b w) : x = w := by
  cases b
  · cases h
  · simpa [optW] using h
theorem words_tell {a b : Rsp} (ha : a.flags < 32) (hb : b.flags < 32) (h : jW (wordsR a) = jW (wordsR b)) :
    (hasI a.items 1 = hasI b.items 1 ∧ (hasI a.items 1 = true → a.flags = b.flags)) ∧ (hasI a.items 2 = hasI b.items 2 ∧ (hasI a.items 2 = true → a.uid = b.uid)) ∧
    (hasI a.items 4 = hasI b.items 4 ∧ (hasI a.items 4 = true → a.size = b.size)) ∧ (hasI a.items 16 = hasI b.items 16 ∧ (hasI a.items 16 = true → a.body = b.body)) := by
  unfold wordsR at h
  have hB : ∀ (r : Rsp) (c : UInt8), c ≠ 41 → c ≠ 66 → (jW (optW (hasI r.items 16) (wB r))).head? ≠ some c := fun r c h1 h2 => jW_head _ _ h1 (fun w hw => by
    rw [optW_mem hw]; exact ⟨fun e => by injection e with e; exact h2 e.symm, by simp [wB]⟩)
  have hS : ∀ (r : Rsp) (c : UInt8), c ≠ 41 → c ≠ 66 → c ≠ 82 → (jW (optW (hasI r.items 4) (wS r) ++ optW (hasI r.items 16) (wB r))).head? ≠ some c := fun r c h1 h2 h3 => jW_head _ _ h1 (fun w hw => by
    rcases List.mem_append.1 hw with hw | hw <;> rw [optW_mem hw]
    · exact ⟨fun e => by injection e with e; exact h3 e.symm, by simp [wS]⟩
    · exact ⟨fun e => by injection e with e; exact h2 e.symm, by simp [wB]⟩)
  have hU : ∀ (r : Rsp) (c : UInt8), c ≠ 41 → c ≠ 66 → c ≠ 82 → c ≠ 85 → (jW (optW (hasI r.items 2) (wU r) ++ (optW (hasI r.items 4) (wS r) ++ optW (hasI r.items 16) (wB r)))).head? ≠ some c := fun r c h1 h2 h3 h4 => jW_head _ _ h1 (fun w hw => by
    rcases List.mem_append.1 hw with hw | hw
    · rw [optW_mem hw]; exact ⟨fun e => by injection e with e; exact h4 e.symm, by simp [wU]⟩
    · rcases List.mem_append.1 hw with hw | hw <;> rw [optW_mem hw]
      · exact ⟨fun e => by injection e with e; exact h3 e.symm, by simp [wS]⟩
      · exact ⟨fun e => by injection e with e; exact h2 e.symm, by simp [wB]⟩)
  have dcut : ∀ (x y : Nat) (ra rb : List (List UInt8)), decDigits x ++ nxW ra = decDigits y ++ nxW rb → x = y ∧ nxW ra = nxW rb := fun x y ra rb h => by
    obtain ⟨c, r, e1, hc⟩ := nxW_head ra
    obtain ⟨d, s, e2, hd⟩ := nxW_head rb
    rw [e1, e2] at h ⊢
    exact dec_cut hc hd h
  obtain ⟨e1, f1, h⟩ := stageW (c := 70) (E := a.flags = b.flags) rfl rfl (hU a 70 (by decide) (by decide) (by decide) (by decide)) (hU b 70 (by decide) (by decide) (by decide) (by decide)) (fun _ h => by
    unfold wF at h
    rw [List.append_assoc, List.append_assoc] at h
    exact listF_cut ha hb (List.append_cancel_left h)) h
  obtain ⟨e2, f2, h⟩ := stageW (c := 85) (E := a.uid = b.uid) rfl rfl (hS a 85 (by decide) (by decide) (by decide)) (hS b 85 (by decide) (by decide) (by decide)) (fun _ h => by
    unfold wU at h
    rw [List.append_assoc, List.append_assoc] at h
    exact dcut _ _ _ _ (List.append_cancel_left h)) h
  obtain ⟨e3, f3, h⟩ := stageW (c := 82) (E := a.size = b.size) rfl rfl (hB a 82 (by decide) (by decide)) (hB b 82 (by decide) (by decide)) (fun _ h => by
    unfold wS at h
    rw [List.append_assoc, List.append_assoc] at h
    exact dcut _ _ _ _ (List.append_cancel_left h)) h
  have h' : jW (optW (hasI a.items 16) (wB a) ++ []) = jW (optW (hasI b.items 16) (wB b) ++ []) := by rw [List.append_nil, List.append_nil]; exact h
  obtain ⟨e4, f4, -⟩ := stageW (c := 66) (E := a.body = b.body) rfl rfl (by decide) (by decide) (fun _ h => by
    unfold wB at h
    rw [List.append_assoc, List.append_assoc] at h
    exact litB_cut (List.append_cancel_left h)) h'
  exact ⟨⟨e1, f1⟩, ⟨e2, f2⟩, ⟨e3, f3⟩, ⟨e4, f4⟩⟩

/-- The kind, off the line. -/
def clsL : List UInt8 → Int
  | 43 :: _ => 10
  | 42 :: 32 :: r =>
    if (r.head?.map digitB).getD false then (match r.dropWhile digitB with
      | 32 :: 69 :: 88 :: 73 :: _ => 1
      | 32 :: 82 :: _ => 2
      | 32 :: 69 :: 88 :: 80 :: _ => 3
      | _ => 4)
    else (match r with
      | 70 :: _ => 5
      | 79 :: _ => 6
      | 66 :: 89 :: _ => 7
      | _ => 8)
  | _ => 9
theorem dropWhile_stop {p : UInt8 → Bool} {c : UInt8} {r : List UInt8} (hc : p c = false) : ∀ l : List UInt8, l.all p = true → (l ++ c :: r).dropWhile p = c :: r
  | [], _ => by simp [List.dropWhile, hc]
  | x :: l, h => by
    simp only [List.all_cons, Bool.and_eq_true] at h
    simp only [List.cons_append, List.dropWhile, h.1, dropWhile_stop hc l h.2]
theorem cls_num (n : Nat) (x : List UInt8) (v : Int) (h : (match (32 :: x : List UInt8) with
      | 32 :: 69 :: 88 :: 73 :: _ => (1 : Int)
      | 32 :: 82 :: _ => 2
      | 32 :: 69 :: 88 :: 80 :: _ => 3
      | _ => 4) = v) : clsL ([42, 32] ++ (decDigits n ++ 32 :: x)) = v := by
  have hd := (val_dec n).2
  have hne := decDigits_ne n
  have e1 : (((decDigits n ++ 32 :: x).head?).map digitB).getD false = true := by
    cases hx : decDigits n with
    | nil => exact absurd hx hne
    | cons a l =>
      rw [hx, List.all_cons, Bool.and_eq_true] at hd
      exact hd.1
  show (if ((decDigits n ++ 32 :: x).head?.map digitB).getD false then _ else _) = v
  rw [e1, show ([] : List UInt8).append (decDigits n ++ 32 :: x) = decDigits n ++ 32 :: x from rfl, dropWhile_stop (by decide) _ hd]
  exact h
theorem tag_not {c : UInt8} (h : tagB c.toNat = true) : c ≠ 42 ∧ c ≠ 43 ∧ c ≠ 32 := by
  refine ⟨?_, ?_, ?_⟩ <;> rintro rfl <;> revert h <;> decide
theorem cls_tag {c : UInt8} {l : List UInt8} (h1 : c ≠ 42) (h2 : c ≠ 43) : clsL (c :: l) = 9 := by
  unfold clsL
  split
  · rename_i h; injection h with h; exact absurd h h2
  · rename_i h; injection h with h; exact absurd h h1
  · rfl
theorem cls_line {r : Rsp} (h : rightR r) : clsL (lineR r) = r.kind := by
  unfold lineR
  rcases h with (k | k | k | k) | ⟨k, _⟩ | ⟨k | k | k | k, _⟩ | ⟨k, ht, _⟩ <;> rw [k]
  · rw [if_pos rfl]; exact cls_num r.n _ 1 rfl
  · rw [if_neg (by decide), if_pos rfl]; exact cls_num r.n _ 2 rfl
  · rw [if_neg (by decide), if_neg (by decide), if_pos rfl]; exact cls_num r.n _ 3 rfl
  · rfl
  · rw [if_neg (by decide), if_neg (by decide), if_neg (by decide), if_pos rfl]; exact cls_num r.n _ 4 rfl
  · rfl
  · rfl
  · rfl
  · rfl
  · rw [if_neg (by decide), if_neg (by decide), if_neg (by decide), if_neg (by decide), if_neg (by decide), if_neg (by decide), if_neg (by decide), if_neg (by decide), if_pos rfl]
    unfold tagL at ht
    cases hl : r.tag with
    | nil => rw [hl] at ht; cases ht
    | cons c l =>
      rw [hl, Bool.and_eq_true, List.all_cons, Bool.and_eq_true] at ht
      have := tag_not ht.2.1
      exact cls_tag this.1 this.2.1
theorem tag_cut : ∀ {a b : List UInt8} {x y : List UInt8}, (a.all fun b => tagB b.toNat) = true → (b.all fun b => tagB b.toNat) = true → a ++ 32 :: x = b ++ 32 :: y → a = b ∧ x = y
  | [], [], x, y, _, _, h => ⟨rfl, by injection h⟩
  | [], d :: b, x, y, _, hb, h => by
    injection h with h1 h2
    rw [List.all_cons, Bool.and_eq_true] at hb
    exact absurd h1.symm (tag_not hb.1).2.2
  | c :: a, [], x, y, ha, _, h => by
    injection h with h1 h2
    rw [List.all_cons, Bool.and_eq_true] at ha
    exact absurd h1 (tag_not ha.1).2.2
  | c :: a, d :: b, x, y, ha, hb, h => by
    injection h with h1 h2
    rw [List.all_cons, Bool.and_eq_true] at ha hb
    obtain ⟨e1, e2⟩ := tag_cut ha.2 hb.2 h2
    exact ⟨by rw [h1, e1], e2⟩
theorem st_cut {s t : Int} (hs : 0 ≤ s ∧ s ≤ 2) (ht : 0 ≤ t ∧ t ≤ 2) {x y : List UInt8} (h : stW s ++ 32 :: x = stW t ++ 32 :: y) : s = t ∧ x = y := by
  obtain rfl | rfl | rfl : s = 0 ∨ s = 1 ∨ s = 2 := by omega
  all_goals
    obtain rfl | rfl | rfl : t = 0 ∨ t = 1 ∨ t = 2 := by omega
    all_goals first
      | exact ⟨rfl, by simpa [stW] using h⟩
      | (exfalso; simp [stW] at h)
/-- The form of a valid response tells the response. -/
theorem line_tell {a b : Rsp} (ha : ValidR a) (hb : ValidR b) (h : lineR a = lineR b) : sameR a b := by
  have hk : a.kind = b.kind := by rw [← cls_line ha.1, h, cls_line hb.1]
  obtain ⟨ra, ma⟩ := ha
  obtain ⟨rb, mb⟩ := hb
  unfold maskR at ma mb
  rw [← hk] at mb
  unfold lineR at h
  rw [← hk] at h
  rcases ra with (k | k | k | k) | ⟨k, ra⟩ | ⟨k | k | k | k, ra⟩ | ⟨k, ra⟩
  · rw [k] at h ma mb
    rw [if_pos rfl, if_pos rfl] at h
    rw [if_pos (.inl rfl)] at ma mb
    obtain ⟨e, -⟩ := dec_cut (by decide) (by decide) (List.append_cancel_left h)
    obtain ⟨-, -, m1, m2, m3, m4, m5, m6, m7, m8⟩ := ma
    obtain ⟨-, -, n1, n2, n3, n4, n5, n6, n7, n8⟩ := mb
    exact ⟨hk, e, m1.symm.trans n1, m2.symm.trans n2, m3.symm.trans n3, m4.symm.trans n4, m5.symm.trans n5, m6.symm.trans n6, m7.symm.trans n7, m8.symm.trans n8⟩
  · rw [k] at h ma mb
    rw [if_neg (by decide), if_pos rfl, if_neg (by decide), if_pos rfl] at h
    rw [if_pos (.inr (.inl rfl))] at ma mb
    obtain ⟨e, -⟩ := dec_cut (by decide) (by decide) (List.append_cancel_left h)
    obtain ⟨-, -, m1, m2, m3, m4, m5, m6, m7, m8⟩ := ma
    obtain ⟨-, -, n1, n2, n3, n4, n5, n6, n7, n8⟩ := mb
    exact ⟨hk, e, m1.symm.trans n1, m2.symm.trans n2, m3.symm.trans n3, m4.symm.trans n4, m5.symm.trans n5, m6.symm.trans n6, m7.symm.trans n7, m8.symm.trans n8⟩
  · rw [k] at h ma mb
    rw [if_neg (by decide), if_neg (by decide), if_pos rfl, if_neg (by decide), if_neg (by decide), if_pos rfl] at h
    rw [if_pos (.inr (.inr rfl))] at ma mb
    obtain ⟨e, -⟩ := dec_cut (by decide) (by decide) (List.append_cancel_left h)
    obtain ⟨-, -, m1, m2, m3, m4, m5, m6, m7, m8⟩ := ma
    obtain ⟨-, -, n1, n2, n3, n4, n5, n6, n7, n8⟩ := mb
    exact ⟨hk, e, m1.symm.trans n1, m2.symm.trans n2, m3.symm.trans n3, m4.symm.trans n4, m5.symm.trans n5, m6.symm.trans n6, m7.symm.trans n7, m8.symm.trans n8⟩
  · rw [k] at ma mb
    obtain ⟨-, m0, m1, m2, m3, m4, m5, m6, m7, m8⟩ := ma
    obtain ⟨-, n0, n1, n2, n3, n4, n5, n6, n7, n8⟩ := mb
    exact ⟨hk, m0.symm.trans n0, m1.symm.trans n1, m2.symm.trans n2, m3.symm.trans n3, m4.symm.trans n4, m5.symm.trans n5, m6.symm.trans n6, m7.symm.trans n7, m8.symm.trans n8⟩
  · have rb4 : b.flags ≤ 31 := by
      have kb : b.kind = 4 := hk ▸ k
      rcases rb with (q | q | q | q) | ⟨_, _, q, _⟩ | ⟨q | q | q | q, _⟩ | ⟨q, _⟩
      all_goals first
        | exact q
        | (rw [kb] at q; exact absurd q (by decide))
    rw [k] at h ma mb
    rw [if_neg (by decide), if_neg (by decide), if_neg (by decide), if_pos rfl, if_neg (by decide), if_neg (by decide), if_neg (by decide), if_pos rfl] at h
    rw [if_neg (by decide), if_pos rfl] at ma mb
    obtain ⟨e, h2⟩ := dec_cut (by decide) (by decide) (List.append_cancel_left h)
    have h3 : jW (wordsR a) = jW (wordsR b) := by unfold jW; simpa using h2
    obtain ⟨⟨e1, f1⟩, ⟨e2, f2⟩, ⟨e3, f3⟩, ⟨e4, f4⟩⟩ := words_tell (by omega) (by omega) h3
    obtain ⟨-, -, m1, m2, m3, m4, m5, m6, m7, m8⟩ := ma
    obtain ⟨-, -, n1, n2, n3, n4, n5, n6, n7, n8⟩ := mb
    dsimp only at m1 m2 m3 m4 m5 m6 m7 m8 n1 n2 n3 n4 n5 n6 n7 n8
    rw [← e1, ← e2, ← e3, ← e4] at n4
    rw [← e1] at n5
    rw [← e2] at n6
    rw [← e3] at n7
    rw [← e4] at n8
    refine ⟨hk, e, m1.symm.trans n1, m2.symm.trans n2, m3.symm.trans n3, m4.symm.trans n4, ?_, ?_, ?_, ?_⟩
    · cases hb : hasI a.items 1 with
      | true => exact f1 hb
      | false => rw [hb] at m5 n5; exact m5.symm.trans n5
    · cases hb : hasI a.items 2 with
      | true => exact f2 hb
      | false => rw [hb] at m6 n6; exact m6.symm.trans n6
    · cases hb : hasI a.items 4 with
      | true => exact f3 hb
      | false => rw [hb] at m7 n7; exact m7.symm.trans n7
    · cases hb : hasI a.items 16 with
      | true => exact f4 hb
      | false => rw [hb] at m8 n8; exact m8.symm.trans n8
  all_goals
    first
    | (rw [k] at h ma mb
       obtain ⟨-, m0, m1, m2, m3, m4, m5, m6, m7, m8⟩ := ma
       obtain ⟨-, n0, n1, n2, n3, n4, n5, n6, n7, n8⟩ := mb
       exact ⟨hk, m0.symm.trans n0, m1.symm.trans n1, m2.symm.trans n2, by simpa using h, m4.symm.trans n4, m5.symm.trans n5, m6.symm.trans n6, m7.symm.trans n7, m8.symm.trans n8⟩)
    | skip
  have rb9 : tagL b.tag = true ∧ txtL b.text = true ∧ 0 ≤ b.status ∧ b.status ≤ 2 := by
    have kb : b.kind = 9 := hk ▸ k
    rcases rb with (q | q | q | q) | ⟨q, _⟩ | ⟨q | q | q | q, _⟩ | ⟨_, q⟩
    all_goals first
      | exact q
      | (rw [kb] at q; exact absurd q (by decide))
  rw [k] at h ma mb
  obtain ⟨-, m0, m1, m2, m3, m4, m5, m6, m7, m8⟩ := ma
  obtain ⟨-, n0, n1, n2, n3, n4, n5, n6, n7, n8⟩ := mb
  have ta := ra.1
  have tb := rb9.1
  unfold tagL at ta tb
  rw [Bool.and_eq_true] at ta tb
  obtain ⟨e1, h2⟩ := tag_cut ta.2 tb.2 (by simpa using h)
  obtain ⟨e2, e3⟩ := st_cut ra.2.2 rb9.2.2 h2
  exact ⟨hk, m0.symm.trans n0, e1, e2, e3, m4.symm.trans n4, m5.symm.trans n5, m6.symm.trans n6, m7.symm.trans n7, m8.symm.trans n8⟩
end Go.Proofs.YtgdhakkfddmkjaaDoor
namespace Go.Proofs.YtgdhakkfddmkjaaDoor
open Go.RowKit

theorem infoFl : (Tryd.prog.info? 23).map (fun i => (i.zero, i.size, i.bytes)) = some (some (.int .u8 0), 1, 1) := by kernel_rfl
/-- A slice of flags that the call has made. -/
def flV (l : List Nat) : List Value := l.map fun x : Nat => Value.int .u8 (x : Int)
def RetF (W : World) (l : List Nat) (e : Ending) (w' : World) : Prop := ∃ v, e = .returned v ∧ Buf w' W.heap.size 1 v l.length (flV l) ∧ Below W.heap.size W w'
theorem flV_one (l : List Nat) : ∀ u ∈ flV l, u.oneCell' = true := by
  intro u hu
  obtain ⟨x, _, rfl⟩ := List.mem_map.1 hu
  rfl
/-- append of one cell's value to a slice of the call's own. -/
theorem buf_app1 {t e : TypeId} {i : TypeInfo} {z : Value} {bytes : Nat} (ht : Tryd.prog.underlying t = some (.slice e)) (hi : Tryd.prog.info? e = some i) (hz : i.zero = some z) (hs : i.size = 1) (hby : i.bytes = bytes) (hzs : z.cells.size = 1) (hb48 : bytes ≤ 128)
    {W w : World} {out : Value} {n : Nat} {xs : List Value} (hbuf : Buf w W.heap.size 1 out n xs) (hw : Below W.heap.size W w) (x : Value) (hx : x.oneCell' = true) (hn : n ≤ 1048576) (T : TypeId) :
    ∃ v' w', (Builtin.append_ #[t, t] t #[out, .slice (some ⟨w.heap.size, 0, none⟩) 1 1]).run Tryd.prog (w.alloc (.cells #[x] T)) = .ok v' w' ∧ Buf w' W.heap.size 1 v' (n + 1) (xs ++ [x]) ∧ Below W.heap.size W w' := by
  have hb0 : Below w.heap.size w (w.alloc (.cells #[x] T)) := (Below.refl _ _).alloc (Nat.le_refl _) _
  have hh := heap_alloc_new w (.cells #[x] T)
  have hsrc : Src (w.alloc (.cells #[x] T)) 1 (some ⟨w.heap.size, 0, none⟩) 1 [x] :=
    ⟨rfl, fun u hu => by obtain rfl := List.mem_singleton.1 hu; exact hx, fun _ => ⟨_, rfl, fun j u hj => by
      have hj' : j < 1 := by have := (List.getElem?_eq_some_iff.1 hj).1; simpa using this
      obtain rfl : j = 0 := by omega
      rw [Go.WideShapes.add_plain]
      simp only [World.cell?, hh]
      simpa using hj⟩⟩
  have h2' := hbuf.below hb0 (Nat.le_refl _)
  obtain ⟨v', w', hrun, hbuf', hgr, hown⟩ := run_append_buf (P := Tryd.prog) _ t t e i z 1 bytes ht hi hz hs hby hzs (by decide) W.heap.size out n _ h2' (some ⟨w.heap.size, 0, none⟩) 1 1 _ hsrc (by unfold maxLen; omega)
    (by
      calc (n + 1) * bytes ≤ 1048577 * 128 := Nat.mul_le_mul (by omega) hb48
        _ ≤ 140737488355328 := by decide) (by have := hw.size; have := hb0.size; omega)
  have hs := hw.size
  have hs0 := hb0.size
  refine ⟨v', w', hrun, hbuf', (hw.trans (hb0.mono hs)).grown hgr (by omega) (fun j hj => ?_)⟩
  rcases h2'.2 with ⟨rfl, _⟩ | ⟨b, off, cap, rfl, hb, _⟩
  · simp [Value.ownBlock] at hj
  · simp only [Value.ownBlock, Option.some.injEq] at hj; omega

set_option maxRecDepth 100000 in
set_option maxHeartbeats 800000 in
theorem each_any (f : Nat) (hf : f < 256) (w : World) :
    Calls Tryd.prog 63 #[.int .u8 f] w (RetF w (eachL f)) := by
  go_enter Tryd.func63, Tryd.ntmps63
  go_wp2
  go_loopw [3, 6] (fun out i wr => ∃ k : Nat, k ≤ 5 ∧ i = .int .i64 k ∧ Buf wr w.heap.size 1 out (eachTo f k).length (flV (eachTo f k)) ∧ Below w.heap.size w wr) (fun _ i _ => 5 - (intOf i).toNat)
  case atStart => exact ⟨0, by omega, rfl, Buf.nil _ _ _, Below.refl _ _⟩
  case round =>
    obtain ⟨k, hk, rfl, hbuf, hb⟩ := hrel
    by_cases hlt : k < 5
    · have hx := and_bits f k hf hlt
      have HN := Lib.hid (eachTo_next f k)
      have hle := eachTo_le f k
      generalize f &&& 2 ^ k = x at hx HN
      have HB := Lib.hid hb
      by_cases hx0 : x = 0
      · have hb0 : ((x : Int) != 0) = false := by subst hx0; rfl
        have HX0 := Lib.hid hx0
        have HBUF := Lib.hid hbuf
        clear hx0 hb hbuf
        go_wp2_with fail
        go_roundw
        case rel => exact ⟨k + 1, by omega, by go_num, by rw [HN.out, if_pos HX0.out]; exact HBUF.out, HB.out⟩
        case measure => simp [intOf]; omega
      · have hb0 : ((x : Int) != 0) = true := by rw [bne_iff_ne]; omega
        have HX0 := Lib.hid hx0
        obtain ⟨i0, hi, hz0, hz1, hz2⟩ := info_parts infoFl
        obtain ⟨v', w', hrun, hbuf', hb'⟩ := buf_app1 Tryd.underlying75 hi hz0 hz1 hz2 rfl (by decide) hbuf hb (.int .u8 (x : Int)) rfl (by omega) 23
        obtain ⟨A, cap, rfl, _, _⟩ := hbuf.src (flV_one _)
        obtain ⟨A', cap', rfl, _, _⟩ := hbuf'.src (fun u hu => by
          rcases List.mem_append.1 hu with h | h
          · exact flV_one _ u h
          · obtain rfl := List.mem_singleton.1 h; rfl)
        have HR := Lib.hid hrun
        have HB2 := Lib.hid (And.intro hbuf' hb')
        clear hx0 hb hbuf hrun hbuf' hb' hi hz0 hz1 hz2
        go_wp2_with (at_builtin; refine wpList_append_run _ rfl (.tmp 15) (.tmp 17) _ _ rfl _ _ rfl rfl _ _ HR.out ?_)
        go_roundw
        case rel =>
          refine ⟨k + 1, by omega, by go_num, ?_, HB2.out.2⟩
          rw [HN.out, if_neg HX0.out]
          unfold flV
          rw [List.length_append, List.map_append]
          exact HB2.out.1
        case measure => simp [intOf]; omega
    · obtain rfl : k = 5 := by omega
      have HB := Lib.hid (And.intro hbuf hb)
      clear hbuf hb
      go_wp2_with fail
      go_ret
      exact ⟨_, rfl, HB.out⟩
end Go.Proofs.YtgdhakkfddmkjaaDoor
namespace Go.Proofs.YtgdhakkfddmkjaaDoor
open Go.RowKit Go.ChangeMaps

/-- Keys of one plain kind. -/
structure Kp (P : Program) (k : TypeId) {α : Type} [DecidableEq α] (key : α → Value) : Prop where
  desc : ∃ d, P.underlying k = some d ∧ (∀ a b, Instr.sameNow d (key a) (key b) = some (decide (a = b)))
  check : ∀ (em : Bool) (w : World) (a : α), (Instr.checkKey em 10000 k (key a)).run P w = .ok () w
  stays : ∀ (w : World) (a : α), (Instr.keyThatStays (key a) (key a)).run P w = .ok (key a) w

theorem ba_beq (a b : ByteArray) : (a == b) = decide (a = b) := by
  cases a with | mk x => cases b with | mk y =>
  rw [show ((ByteArray.mk x) == (ByteArray.mk y)) = (x == y) from rfl, Bool.eq_iff_iff, beq_iff_eq, decide_eq_true_eq]
  exact ⟨fun h => by rw [h], fun h => by injection h⟩
theorem Kp.int {P : Program} {k : TypeId} {q : IntKind} (h : P.underlying k = some (.int q)) : Kp P k (Value.int q) :=
  ⟨⟨_, h, fun a b => by simp [Instr.sameNow]; rfl⟩, fun em w a => by rw [show (10000 : Nat) = 9999 + 1 from rfl, Instr.checkKey]; simp [run_underlying h], fun w a => by simp [Instr.keyThatStays, Instr.sameBits]⟩
theorem Kp.str {P : Program} {k : TypeId} (h : P.underlying k = some .string) : Kp P k Value.string :=
  ⟨⟨_, h, fun a b => by simp only [Instr.sameNow, ba_beq]⟩, fun em w a => by rw [show (10000 : Nat) = 9999 + 1 from rfl, Instr.checkKey]; simp [run_underlying h], fun w a => by
    have : (a == a) = true := by rw [ba_beq]; simp
    simp [Instr.keyThatStays, Instr.sameBits, this]⟩

section
variable {α : Type} {key : α → Value}
/-- Block b is a map whose entries, in the order of their making, are l. -/
def KMap (w : World) (b : Nat) (key : α → Value) (l : List (α × Value)) : Prop :=
  ∃ es clock, w.heap[b]? = some (.map es clock) ∧ es.toList.map (fun e => (e.key, e.val)) = l.map fun p => (key p.1, p.2)
def lookK [DecidableEq α] (l : List (α × Value)) (a : α) : Option Value := (l.find? fun p => decide (a = p.1)).map (·.2)

theorem KMap.lt {w : World} {b : Nat} {l : List (α × Value)} (h : KMap w b key l) : b < w.heap.size := by
  obtain ⟨es, clock, hb, _⟩ := h
  exact (Array.getElem?_eq_some_iff.1 hb).1
theorem KMap.made (w : World) : KMap (w.alloc (.map #[] 0)) w.heap.size key [] := ⟨#[], 0, heap_alloc_new w _, rfl⟩
theorem KMap.drew {w : World} {b : Nat} {l : List (α × Value)} (h : KMap w b key l) : KMap w.drew b key l := h
theorem KMap.drewN {w : World} {b : Nat} {l : List (α × Value)} (h : KMap w b key l) (n : Nat) : KMap (w.drewN n) b key l := h
theorem KMap.grown {w w' : World} {b : Nat} {row : Option Nat} {l : List (α × Value)} (h : KMap w b key l) (hg : w.grownBy w' row) (hne : some b ≠ row) : KMap w' b key l := by
  have hlt := h.lt
  obtain ⟨es, clock, hb, he⟩ := h
  exact ⟨es, clock, (hg.block b hlt hne).trans hb, he⟩
theorem KMap.below {w w' : World} {b B : Nat} {l : List (α × Value)} (h : KMap w b key l) (hb : Below B w w') (hB : b < B) : KMap w' b key l := by
  obtain ⟨es, clock, hm, he⟩ := h
  exact ⟨es, clock, (hb.block b hB).trans hm, he⟩
theorem KMap.past {w : World} {b : Nat} {l : List (α × Value)} (h : KMap w b key l) (o : Obj) : KMap (w.alloc o) b key l := by
  have hlt := h.lt
  obtain ⟨es, clock, hm, he⟩ := h
  exact ⟨es, clock, (Below.heap_alloc w o b hlt).trans hm, he⟩
theorem KMap.far {w : World} {b : Nat} {l : List (α × Value)} (h : KMap w b key l) {p : Addr} (hp : b ≠ p.block) (u : Value) : KMap (w.setCell p u) b key l := by
  obtain ⟨es, clock, hm, he⟩ := h
  exact ⟨es, clock, (Below.heap_setCell w p u b hp).trans hm, he⟩

variable [DecidableEq α]
theorem findNow_gen {d : TypeDesc} (hd : ∀ a b, Instr.sameNow d (key a) (key b) = some (decide (a = b))) (a : α) : ∀ (es : List MapEntry) (l : List (α × Value)) (i : Nat), es.map (fun e => (e.key, e.val)) = l.map (fun p => (key p.1, p.2)) →
    ∃ r, Instr.findNow d (key a) es i = some r ∧ r.map (·.2) = lookK l a ∧ (∀ j v, r = some (j, v) → i ≤ j ∧ ∃ p, l[j - i]? = some p ∧ p.1 = a)
  | [], [], i, _ => ⟨none, rfl, rfl, by simp⟩
  | [], _ :: _, _, h => by simp at h
  | _ :: _, [], _, h => by simp at h
  | e :: es, p :: l, i, h => by
    simp only [List.map_cons, List.cons.injEq, Prod.mk.injEq] at h
    obtain ⟨⟨hk, hv⟩, ht⟩ := h
    unfold Instr.findNow
    rw [hk, hd]
    by_cases hap : a = p.1
    · refine ⟨some (i, e.val), by simp [hap], by simp [lookK, hap, hv], ?_⟩
      rintro j v hj
      simp only [Option.some.injEq, Prod.mk.injEq] at hj
      obtain ⟨rfl, _⟩ := hj
      exact ⟨Nat.le_refl _, p, by simp, hap.symm⟩
    · obtain ⟨r, h1, h2, h3⟩ := findNow_gen hd a es l (i + 1) ht
      refine ⟨r, by simp [hap, h1], by rw [h2]; simp [lookK, hap], ?_⟩
      intro j v hj
      obtain ⟨hij, q, hq, hqa⟩ := h3 j v hj
      refine ⟨by omega, q, ?_, hqa⟩
      rw [show j - i = (j - (i + 1)) + 1 by omega]
      simpa using hq

variable {P : Program} {t k e : TypeId}
theorem KMap.find {w : World} {b : Nat} {l : List (α × Value)} (K : Kp P k key) (a : α) {es : List MapEntry} (he : es.map (fun e => (e.key, e.val)) = l.map fun p => (key p.1, p.2)) :
    ∃ r, (Instr.findKey k (key a) es).run P w = .ok r w ∧ r.map (·.2) = lookK l a ∧ (∀ j v, r = some (j, v) → ∃ p, l[j]? = some p ∧ p.1 = a) := by
  obtain ⟨d, hd, hs⟩ := K.desc
  obtain ⟨r, h1, h2, h3⟩ := findNow_gen hs a es l 0 he
  refine ⟨r, by simp [Instr.findKey, run_underlying hd, h1], h2, fun j v hj => ?_⟩
  obtain ⟨_, p, hp, hpa⟩ := h3 j v hj
  exact ⟨p, by simpa using hp, hpa⟩

/-- 'v, ok := m[k]' -/
theorem KMap.look {w : World} {b : Nat} {l : List (α × Value)} (h : KMap w b key l) (K : Kp P k key) (ht : P.underlying t = some (.map k e)) {z : Value} (hz : (zeroValue e).run P w = .ok z w) (a : α) :
    (Instr.lookup t (.map (some b)) (key a) true).run P w = .ok (.tuple #[(lookK l a).getD z, .bool (lookK l a).isSome]) w := by
  obtain ⟨es, clock, hb, he⟩ := h
  obtain ⟨r, h1, h2, _⟩ := KMap.find (w := w) (b := b) K a he
  rw [← h2]
  cases r with
  | none => simp [Instr.lookup, run_underlying ht, MapKept.run_getObj_map hb, K.check, h1, hz, Result.andThen]
  | some r => simp [Instr.lookup, run_underlying ht, MapKept.run_getObj_map hb, K.check, h1, Result.andThen]
/-- 'm[k]' -/
theorem KMap.look1 {w : World} {b : Nat} {l : List (α × Value)} (h : KMap w b key l) (K : Kp P k key) (ht : P.underlying t = some (.map k e)) {z : Value} (hz : (zeroValue e).run P w = .ok z w) (a : α) :
    (Instr.lookup t (.map (some b)) (key a) false).run P w = .ok ((lookK l a).getD z) w := by
  obtain ⟨es, clock, hb, he⟩ := h
  obtain ⟨r, h1, h2, _⟩ := KMap.find (w := w) (b := b) K a he
  rw [← h2]
  cases r with
  | none => simp [Instr.lookup, run_underlying ht, MapKept.run_getObj_map hb, K.check, h1, hz, Result.andThen]
  | some r => simp [Instr.lookup, run_underlying ht, MapKept.run_getObj_map hb, K.check, h1, Result.andThen]

/-- The list behind a store. -/
def putK (l : List (α × Value)) (a : α) (v : Value) : List (α × Value) :=
  if (lookK l a).isSome then l.modify (l.findIdx fun p => decide (a = p.1)) (fun p => (p.1, v)) else l ++ [(a, v)]
theorem putK_new {l : List (α × Value)} {a : α} (v : Value) (h : lookK l a = none) : putK l a v = l ++ [(a, v)] := by simp [putK, h]

/-- 'm[k] = v', k a new key -/
theorem KMap.put {w : World} {b : Nat} {l : List (α × Value)} (h : KMap w b key l) (K : Kp P k key) (ht : P.underlying t = some (.map k e)) (a : α) (v : Value) (hn : lookK l a = none) :
    ∃ w', (Instr.mapUpdate t (.map (some b)) (key a) v).run P w = .ok () w' ∧ KMap w' b key (l ++ [(a, v)]) ∧ w.grownBy w' (some b) := by
  obtain ⟨es, clock, hb, he⟩ := h
  obtain ⟨r, h1, h2, _⟩ := KMap.find (w := w) (b := b) K a he
  rw [hn] at h2
  obtain rfl : r = none := by cases r <;> simp_all
  refine ⟨setBlock w b (.map (es.push { key := key a, val := v, born := clock }) (clock + 1)), by simp [Instr.mapUpdate, run_underlying ht, MapKept.run_getObj_map hb, K.check, h1, MapKept.run_setObj_map _ hb, Result.andThen, setBlock],
    ⟨_, _, heap_setBlock_same hb _, by simp [he]⟩, ⟨rfl, rfl, rfl, by simp [setBlock], fun i _ hi => heap_setBlock_other hb _ (fun e => hi (by rw [e]))⟩⟩
end

theorem wpList_lookup_run {P : Program} {w : World} {ops : Array Oper} {rest : List Oper} {o : Oper} {a : Act} {Q : Exit → Act → World → Prop} (hg : o.guard = none) (m x : Operand) (t : TypeId) (c : Bool) (hop : o.op = Op.lookup t m x c)
    (mv key v : Value) (hm : a.eval m = mv) (hx : a.eval x = key) (w' : World) (hrun : (Instr.lookup t mv key c).run P w = .ok v w') (h : wpList P ops Q rest (a.put o.dst v) w') : wpList P ops Q (o :: rest) a w := by
  refine wpList_plain hg fun K' hK' => ?_
  unfold Oper.wp
  simp [execOp, hop, hm, hx, hrun, Result.andThen]
  exact hK' _ _ h
theorem wpList_update_run {P : Program} {w : World} {ops : Array Oper} {rest : List Oper} {o : Oper} {a : Act} {Q : Exit → Act → World → Prop} (hg : o.guard = none) (m x v : Operand) (t : TypeId) (hop : o.op = Op.mapUpdate t m x v)
    (mv key val : Value) (hm : a.eval m = mv) (hx : a.eval x = key) (hv : a.eval v = val) (w' : World) (hrun : (Instr.mapUpdate t mv key val).run P w = .ok () w') (h : wpList P ops Q rest (a.put o.dst undef) w') : wpList P ops Q (o :: rest) a w := by
  refine wpList_plain hg fun K' hK' => ?_
  unfold Oper.wp
  simp [execOp, hop, hm, hx, hv, hrun, Result.andThen]
  exact hK' _ _ h
theorem wpList_insert_run {P : Program} {w : World} {ops : Array Oper} {rest : List Oper} {o : Oper} {a : Act} {Q : Exit → Act → World → Prop} (hg : o.guard = none) (m x v : Operand) (t : TypeId) (hop : o.op = Op.insert t m x v)
    (mv key val : Value) (hm : a.eval m = mv) (hx : a.eval x = key) (hv : a.eval v = val) (w' : World) (hrun : (Instr.mapUpdate t mv key val).run P w = .ok () w') (h : wpList P ops Q rest (a.put o.dst undef) w') : wpList P ops Q (o :: rest) a w := by
  refine wpList_plain hg fun K' hK' => ?_
  unfold Oper.wp
  simp [execOp, hop, hm, hx, hv, hrun, Result.andThen]
  exact hK' _ _ h
end Go.Proofs.YtgdhakkfddmkjaaDoor
namespace Go.Proofs.YtgdhakkfddmkjaaDoor
open Go.RowKit

def strsV (l : List (List UInt8)) : Array Value := (l.map fun x => Value.string (ofL x)).toArray
theorem strsV_at (l : List (List UInt8)) (k : Nat) (h : k < l.length) : (strsV l)[k]? = some (.string (ofL l[k])) := by simp [strsV, h]
/-- strings.Fields at an ASCII string. -/
theorem fields_at (s : ByteArray) (l : List (List UInt8)) (w : World) (hS : StdA w) (hs : s.size < 4294967281) (ha : s.data.toList.all (fun b => b.toNat < 128) = true) (hl : Lib.fields s.data.toList = l) :
    Calls Tryd.prog 70 #[.string s] w fun e w' => e = .returned (.slice (some ⟨w.heap.size, 0, none⟩) l.length l.length) ∧ Blk w' w.heap.size 9 (strsV l) ∧ Below w.heap.size w w' := by
  subst hl
  refine (Tryd.strings_Fields_laid s w hs (fun j b hb => ?_) hS.asc).mono ?_
  · rw [List.all_eq_true] at ha
    simpa using ha b (List.mem_of_getElem? hb)
  · rintro e w' ⟨rfl, rfl⟩
    exact ⟨rfl, Blk.made _ _ _, (Below.refl _ _).alloc (Nat.le_refl _) _⟩
end Go.Proofs.YtgdhakkfddmkjaaDoor
