/- The reference of the plans: every, locks, Inbox, and of resolve: In, Stripes. The reference's For. -/
import Derived.Test.YtamholmjppgfiaaGreatDoorPlanA
import Derived.Test.YtamholmjppgfiaaGreatDoorRefX
import Derived.Test.YtamholmjppgfiaaGreatDoorE
import Derived.Test.YtamholmjppgfiaaGreatDoorPlanC
set_option linter.unusedVariables false
set_option linter.unusedSimpArgs false
namespace Go.Proofs.YtamholmjppgfiaaGreatDoor
open Go Go.RowKit Go.Shelf Go.Lib Go.Sort

theorem runL_next (k : Nat) : runL 0 ((k + 1 : Nat) : Int) = runL 0 k ++ [(k : Int)] := by
  rw [show ((k + 1 : Nat) : Int) = (k : Int) + 1 by omega]
  exact runL_snoc (by omega)

theorem inbox_const : upS ⟨#[73, 78, 66, 79, 88]⟩ = ⟨#[73, 78, 66, 79, 88]⟩ := by decide
theorem inbox_lit (mb : ByteArray) : Ending.returned (Value.bool ((upS mb).toList == [73, 78, 66, 79, 88])) = .returned (.bool (eqS (upS mb) ⟨#[73, 78, 66, 79, 88]⟩)) := by
  unfold eqS
  rw [ByteArray.toList_eq ⟨#[73, 78, 66, 79, 88]⟩]
theorem take_filter_yes {p : Int → Bool} {us : List Int} {k : Nat} (hk : k < us.length) (h : p us[k] = true) : (us.take (k + 1)).filter p = (us.take k).filter p ++ [us[k]] := by
  rw [List.take_succ_eq_append_getElem hk, List.filter_append]
  simp [h]
theorem take_filter_no {p : Int → Bool} {us : List Int} {k : Nat} (hk : k < us.length) (h : p us[k] = false) : (us.take (k + 1)).filter p = (us.take k).filter p := by
  rw [List.take_succ_eq_append_getElem hk, List.filter_append]
  simp [h]
def tryL (n : Nat) (us : List Int) (k : Nat) : List Int := (runL 0 k).filter (fun t => decide (0 < (us.filter fun u => decide (u % (n : Int) = t)).length))
theorem tryL_len (n : Nat) (us : List Int) (k : Nat) : (tryL n us k).length ≤ k := by
  have := List.length_filter_le (fun t => decide (0 < (us.filter fun u => decide (u % (n : Int) = t)).length)) (runL 0 k)
  rw [runL_len] at this
  unfold tryL
  omega
theorem tryL_yes {n : Nat} {us : List Int} {k : Nat} (h : 0 < (us.filter fun u => decide (u % (n : Int) = (k : Int))).length) : tryL n us (k + 1) = tryL n us k ++ [(k : Int)] := by
  unfold tryL
  rw [runL_next, List.filter_append, List.filter_cons_of_pos (by simpa using h), List.filter_nil]
theorem tryL_no {n : Nat} {us : List Int} {k : Nat} (h : ¬ 0 < (us.filter fun u => decide (u % (n : Int) = (k : Int))).length) : tryL n us (k + 1) = tryL n us k := by
  unfold tryL
  rw [runL_next, List.filter_append, List.filter_cons_of_neg (by simpa using h), List.filter_nil, List.append_nil]
/-- The queues that are taken before number k. -/
def tookL (own : Int) (all : Bool) (st : Int) (k : Nat) : List Int := ((runL 0 k).filter fun i => all || decide (i = own)).map fun i => 1 + st + i
theorem tookL_len (own : Int) (all : Bool) (st : Int) (k : Nat) : (tookL own all st k).length ≤ k := by
  unfold tookL
  rw [List.length_map]
  have := List.length_filter_le (fun i => all || decide (i = own)) (runL 0 k)
  rw [runL_len] at this
  omega
theorem tookL_yes {own : Int} {all : Bool} {st : Int} {k : Nat} (h : (all || decide ((k : Int) = own)) = true) : tookL own all st (k + 1) = tookL own all st k ++ [1 + st + (k : Int)] := by
  unfold tookL
  rw [runL_next, List.filter_append, List.filter_cons_of_pos (by simpa using h), List.filter_nil, List.map_append]
  rfl
theorem tookL_no {own : Int} {all : Bool} {st : Int} {k : Nat} (h : (all || decide ((k : Int) = own)) = false) : tookL own all st (k + 1) = tookL own all st k := by
  unfold tookL
  rw [runL_next, List.filter_append, List.filter_cons_of_neg (by simpa using h), List.filter_nil, List.append_nil]

end Go.Proofs.YtamholmjppgfiaaGreatDoor

namespace Go.Proofs.YtamholmjppgfiaaGreatDoor
open Go Go.RowKit Go.Shelf Go.Lib Go.Sort

def LkB (W : World) (B : Nat) (v : Value) (L : List Int) : Prop := Buf W B 1 v L.length (L.map (Value.int .i64))
theorem rd_nil (W : World) (B : Nat) : Rd1 W B (.slice none 0 0) (([] : List Int).map (Value.int .i64)) := ⟨none, 0, rfl, Nat.le_refl _, fun h => absurd h (by simp)⟩
theorem lb_mono {W : World} {B B' : Nat} {v : Value} {L : List Int} (h : Buf W B 1 v L.length (L.map (Value.int .i64))) (hb : B' ≤ B) : LkB W B' v L := h.mono hb
theorem lb_rd {W : World} {B : Nat} {v : Value} {L : List Int} (h : Buf W B 1 v L.length (L.map (Value.int .i64))) : Rd1 W W.heap.size v (L.map (Value.int .i64)) := Rd1.of_buf (n := L.length) h
theorem uids_in {vl : List Int} {l : List Rng} (hb : ∀ x ∈ vl, 0 ≤ x ∧ x < 4294967296) : ∀ u ∈ uidsOf vl l, 0 ≤ u ∧ u < 4294967296 := fun u hu => by
  unfold uidsOf at hu
  obtain ⟨n, hn, rfl⟩ := List.mem_map.1 hu
  obtain ⟨k1, k2⟩ := numsOf_mem hn
  rw [getElem!_pos vl (n - 1) (by omega)]
  exact hb _ (List.getElem_mem _)
theorem uids_le {vl : List Int} {l : List Rng} : (uidsOf vl l).length ≤ vl.length := by
  have h1 := numsOf_len vl.length l
  unfold uidsOf
  rw [List.length_map]
  omega

end Go.Proofs.YtamholmjppgfiaaGreatDoor
