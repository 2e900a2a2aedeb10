/- The walks of package quote: Announced; and its reference. -/
import Derived.Test.YthoccgkkgnlbpaaDoorLit
import Derived.Lib.SlBytesConst
namespace Go.Proofs.YthoccgkkgnlbpaaDoor
open Go.RowKit

def annV (o : Option Nat) : Value := .tuple #[.int .i64 ((o.getD 0 : Nat) : Int), .bool o.isSome]
theorem annV_none : annV none = .tuple #[.int .i64 0, .bool false] := rfl
theorem annV_some (u : Nat) : annV (some u) = .tuple #[.int .i64 (u : Int), .bool true] := rfl

theorem lastIx_take {c : UInt8} {l : List UInt8} {i : Nat} (h : lastIx c l = some i) : ∃ (hi : i < l.length), l[i] = c ∧ ∀ j (hj : j < l.length), i < j → l[j] ≠ c := by
  obtain ⟨a, b, rfl, rfl, hb⟩ := lastIx_split h
  refine ⟨by simp, by simp, fun j hj hij e => hb ?_⟩
  obtain ⟨m, rfl⟩ : ∃ m, j = a.length + (m + 1) := ⟨j - a.length - 1, by omega⟩
  have h1 : (a ++ c :: b)[a.length + (m + 1)]? = b[m]? := by
    rw [List.getElem?_append_right (Nat.le_add_right _ _), Nat.add_sub_cancel_left]; rfl
  rw [List.getElem?_eq_getElem hj, e] at h1
  exact List.mem_of_getElem? h1.symm
def ixV (o : Option Nat) : Int := match o with
  | none => -1
  | some i => (i : Int)

set_option maxRecDepth 100000 in
set_option maxHeartbeats 800000 in
theorem lastByte_any (p : Option Addr) (cap : Nat) (l : List UInt8) (c : UInt8) (w : World) (B : Nat) (h : Bys w B p l) (hl : l.length ≤ 1048576) :
    Calls Tryd.prog 40 #[.slice p l.length cap, .int .u8 (c.toNat : Int)] w fun e w' => e = .returned (.int .i64 (ixV (lastIx c l))) ∧ w' = w := by
  obtain ⟨o, ho⟩ : ∃ o, lastIx c l = o := ⟨_, rfl⟩
  have HO := Lib.hid ho
  rw [ho]
  clear ho
  generalize hcv : (c.toNat : Int) = cv
  have HCV := Lib.hid hcv
  clear hcv
  go_enter Tryd.func40, Tryd.ntmps40
  go_wp2_with fail
  go_loop [5] (fun i => ∃ k : Nat, k ≤ l.length ∧ i = .int .i64 ((k : Int) - 1) ∧ ∀ j (hj : j < l.length), k ≤ j → l[j] ≠ c) (fun i => (intOf i + 1).toNat)
  case atStart => exact ⟨l.length, Nat.le_refl _, rfl, fun j hj h => absurd hj (by omega)⟩
  case round =>
    obtain ⟨k, hk, rfl, hall⟩ := hrel
    have HA := Lib.hid hall
    clear hall
    by_cases h0 : 0 < k
    · obtain ⟨k, rfl⟩ : ∃ m, k = m + 1 := ⟨k - 1, by omega⟩
      have e1 : ((k + 1 : Nat) : Int) - 1 = (k : Int) := by omega
      rw [e1]
      obtain ⟨b, off, rfl, hbl, hc⟩ := h (by omega)
      have hce : w.cell? ⟨b, off + k, none⟩ = some (.int .u8 (l[k].toNat : Int)) := hc k (by omega)
      have hi0 : (0 : Int) ≤ k := by omega
      have hi1 : (k : Int) < l.length := by omega
      clear hc h e1
      by_cases he : l[k] = c
      · have R : Hid (o = some k) := Lib.hid (by
          rw [← HO.out]
          cases hL : lastIx c l with
          | none => exact absurd (by rw [← he]; exact List.getElem_mem _) (lastIx_none' hL)
          | some i =>
            obtain ⟨hi, hic, hj⟩ := lastIx_take hL
            congr 1
            rcases Nat.lt_trichotomy i k with h | h | h
            · exact absurd he (hj k (by omega) h)
            · exact h
            · exact absurd hic (HA.out i hi (by omega)))
        have hb : ((l[k].toNat : Int) == cv) = true := by rw [beq_iff_eq, ← HCV.out, he]
        clear he
        go_wp2_with fail
        go_ret
        exact ⟨by rw [R.out]; rfl, rfl⟩
      · have hb : ((l[k].toNat : Int) == cv) = false := by
          rw [beq_eq_false_iff_ne, ← HCV.out]
          intro e
          exact he (UInt8.toNat_inj.1 (by omega))
        have HA2 : Hid (∀ j (hj : j < l.length), k ≤ j → l[j] ≠ c) := Lib.hid fun j hj h => by
          rcases Nat.lt_or_eq_of_le h with h | h
          · exact HA.out j hj h
          · subst h; exact he
        clear he
        go_wp2_with fail
        go_round
        case rel => exact ⟨k, by omega, rfl, HA2.out⟩
        case measure => simp [intOf]
    · obtain rfl : k = 0 := by omega
      have R : Hid (o = none) := Lib.hid (by
        rw [← HO.out]
        cases hL : lastIx c l with
        | none => rfl
        | some i =>
          obtain ⟨hi, hic, _⟩ := lastIx_take hL
          exact absurd hic (HA.out i hi (by omega)))
      go_wp2_with fail
      go_ret
      exact ⟨by rw [R.out]; rfl, rfl⟩

theorem lastIndex_any (p : Option Addr) (cap : Nat) (l : List UInt8) (c : UInt8) (v : Int) (hv : (c.toNat : Int) = v) (w : World) (B : Nat) (h : Bys w B p l) (hl : l.length ≤ 1048576) :
    Calls Tryd.prog 25 #[.slice p l.length cap, .int .u8 v] w fun e w' => e = .returned (.int .i64 (ixV (lastIx c l))) ∧ w' = w := by
  subst hv
  have H := Lib.hid (lastByte_any p cap l c w B h hl)
  clear h
  generalize ixV (lastIx c l) = x at *
  go_enter Tryd.func25, Tryd.ntmps25
  go_wp2_with (go_at_call 40; refine H.out.mono ?_; rintro e w' ⟨rfl, rfl⟩)
  go_ret
  exact ⟨rfl, rfl⟩

theorem bytesOf_ints (l : List UInt8) : Lib.bytesOf (ints l) = l := by
  simp only [Lib.bytesOf, ints, List.map_map]
  conv => rhs; rw [← List.map_id l]
  exact List.map_congr_left fun b _ => by simp
theorem suffix_one (l : List UInt8) (c : UInt8) : Lib.hasSuffix l [c] = decide (l.getLast? = some c) := by
  unfold Lib.hasSuffix
  rw [Bool.eq_iff_iff, List.isSuffixOf_iff_suffix, decide_eq_true_eq]
  constructor
  · rintro ⟨t, rfl⟩; simp
  · intro h
    cases hl : l.reverse with
    | nil => rw [List.reverse_eq_nil_iff] at hl; subst hl; cases h
    | cons x r =>
      have e : l = r.reverse ++ [x] := by rw [← List.reverse_reverse l, hl, List.reverse_cons]
      subst e
      simp at h
      subst h
      exact ⟨_, rfl⟩

theorem cut_one (p : Option Addr) (cap : Nat) (l : List UInt8) (q : Option Addr) (d : Nat) (c : UInt8) (w : World) (B B' : Nat) (h : Bys w B p l) (h2 : Bys w B' q [c]) (hl : l.length ≤ 1048576) (hcap : l.length ≤ cap) :
    Calls Tryd.prog 24 #[.slice p l.length cap, .slice q 1 d] w fun e w' => e = .returned (.tuple #[.slice p (if l.getLast? = some c then l.length - 1 else l.length) cap, .bool (decide (l.getLast? = some c))]) ∧ w' = w := by
  refine (Tryd.bytes_CutSuffix_all p q l.length cap 1 d (ints l) (ints [c]) w (ints_length l) rfl hcap (by omega) h.ints_in h2.ints_in).mono ?_
  rintro e w' ⟨rfl, rfl⟩
  rw [bytesOf_ints, bytesOf_ints, suffix_one]
  refine ⟨?_, rfl⟩
  have hb : ∀ b o, Lib.bytesTrimSuffix b o l.length cap (ints l) (ints [c]) = .slice (some ⟨b, o, none⟩) (if l.getLast? = some c then l.length - 1 else l.length) cap := fun b o => by
    unfold Lib.bytesTrimSuffix
    rw [bytesOf_ints, bytesOf_ints, suffix_one]
    by_cases hx : l.getLast? = some c
    · simp [hx, ints, Lib.sliceTo]
    · simp [hx]
  by_cases h0 : 0 < l.length
  · obtain ⟨b, o, rfl, _⟩ := h h0
    have e : Lib.trimSuffixV (some ⟨b, o, none⟩) l.length cap (ints l) (ints [c]) = Lib.bytesTrimSuffix b o l.length cap (ints l) (ints [c]) := rfl
    rw [e, hb]
  · have hl0 : l = [] := List.eq_nil_of_length_eq_zero (by omega)
    subst hl0
    rcases p with _ | ⟨b, o, s⟩
    · rfl
    · cases s with
      | none =>
        have e : Lib.trimSuffixV (some ⟨b, o, none⟩) ([] : List UInt8).length cap (ints []) (ints [c]) = Lib.bytesTrimSuffix b o ([] : List UInt8).length cap (ints []) (ints [c]) := rfl
        rw [e, hb]
      | some s => rfl

theorem annP_not (l : List UInt8) (h : ¬ l.getLast? = some 125) : annP l = none := by unfold annP; rw [if_neg h]
theorem annP_no (l : List UInt8) (h : l.getLast? = some 125) (hi : lastIx 123 l.dropLast = none) : annP l = none := by unfold annP; rw [if_pos h, hi]
theorem annP_at (l : List UInt8) (h : l.getLast? = some 125) (i : Nat) (hi : lastIx 123 l.dropLast = some i) : annP l = numB (l.dropLast.drop (i + 1)) := by unfold annP; rw [if_pos h, hi]
theorem last_pos {l : List UInt8} {c : UInt8} (h : l.getLast? = some c) : 0 < l.length := by cases l with | nil => cases h | cons a l => simp
theorem dropLast_bys {w : World} {B : Nat} {p : Option Addr} {l : List UInt8} (h : Bys w B p l) : Bys w B p l.dropLast := by
  rw [List.dropLast_eq_take]; exact h.upto _

set_option maxRecDepth 100000 in
set_option maxHeartbeats 800000 in
theorem announced_any (p : Option Addr) (cap : Nat) (l : List UInt8) (w : World) (h : Bys w w.heap.size p l) (hl : l.length ≤ 1048576) (hcap : l.length ≤ cap) (hS : Std w) :
    Calls Tryd.prog 10 #[.slice p l.length cap] w fun e w' => e = .returned (annV (annP l)) ∧ Below w.heap.size w w' := by
  have hb0 : Below w.heap.size w (w.alloc (.cells #[.int .u8 125] 5 (1, 2))) := (Below.refl _ _).alloc (Nat.le_refl _) _
  have hq : Bys (w.alloc (.cells #[.int .u8 125] 5 (1, 2))) (w.heap.size + 1) (some ⟨w.heap.size, 0, none⟩) [125] := fun _ => ⟨w.heap.size, 0, rfl, by omega, fun i hi => by
    obtain rfl : i = 0 := by simpa using hi
    have hh := heap_alloc_new w (.cells #[.int .u8 125] 5 (1, 2))
    simp only [World.cell?, hh]; rfl⟩
  have kc := fun (w : World) (C : Array Value) (n c : Nat) => Lib.run_convert_bytes_const (P := Tryd.prog) w 22 5 C n c Tryd.underlying22 Tryd.underlying5
  have h1 := h.below hb0
  have H54 := Lib.hid (cut_one p cap l (some ⟨w.heap.size, 0, none⟩) 1 125 _ _ _ h1 hq hl hcap)
  have hdl := dropLast_bys h1
  have hlen : l.dropLast.length = l.length - 1 := by simp
  have H55 := Lib.hid (lastIndex_any p cap l.dropLast 123 123 rfl _ _ hdl (by omega))
  rw [hlen] at H55
  by_cases hx : l.getLast? = some 125
  · simp only [hx, decide_true, if_true] at H54
    have hpos := last_pos hx
    cases hi : lastIx 123 l.dropLast with
    | none =>
      rw [annP_no l hx hi, annV_none]
      simp only [hi, ixV] at H55
      clear hx hi h h1 hdl hq hS hlen
      go_enter Tryd.func10, Tryd.ntmps10
      go_wp2_with fail
      refine H54.out.mono ?_
      rintro e w1 ⟨rfl, rfl⟩
      go_wp2_with fail
      refine H55.out.mono ?_
      rintro e w1 ⟨rfl, rfl⟩
      go_wp2_with fail
      go_ret2
      exact ⟨rfl, hb0⟩
    | some i =>
      have hil := (lastIx_take hi).1
      rw [hlen] at hil
      rw [annP_at l hx i hi]
      simp only [hi, ixV] at H55
      have hcut := hdl.from (i + 1)
      have hcl : (l.dropLast.drop (i + 1)).length = l.length - 1 - (i + 1) := by rw [List.length_drop, hlen]
      have hcv := fun c => conv_bys (P := Tryd.prog) hcut c Tryd.underlying22 Tryd.underlying5 Tryd.underlying9
      rw [hcl] at hcv
      have H56 := Lib.hid (number_any (ofL (l.dropLast.drop (i + 1))) _ (by show (l.dropLast.drop (i + 1)).toArray.size ≤ _; rw [List.size_toArray, hcl]; omega) (hS.below hb0))
      rw [ofL_data] at H56
      obtain ⟨b, off, rfl, _⟩ := h (by omega)
      rw [Option.map_some, Go.WideShapes.add_plain] at hcv
      have HCV := Lib.hid hcv
      have hvl : (numB (l.dropLast.drop (i + 1))).getD 0 < 4294967296 := by
        cases h : numB (l.dropLast.drop (i + 1)) with
        | none => decide
        | some u => exact numB_le h
      cases hn : numB (l.dropLast.drop (i + 1))
      all_goals
        simp only [hn, numV_none, numV_some, annV_none, annV_some, Option.getD_none, Option.getD_some] at H56 hvl ⊢
        have hc1 : (i : Int) + 1 ≤ (l.length : Int) - 1 := by omega
        clear hx hi h h1 hdl hq hS hlen hcut hcl hcv hn
        go_enter Tryd.func10, Tryd.ntmps10
        go_wp2_with fail
        refine H54.out.mono ?_
        rintro e w1 ⟨rfl, rfl⟩
        go_wp2_with fail
        refine H55.out.mono ?_
        rintro e w1 ⟨rfl, rfl⟩
        go_wp2_with fail
        rw [HCV.out]
        simp only [Result.andThen]
        rw [Oper.upon_value]
        go_wp2_with fail
        refine H56.out.mono ?_
        rintro e w2 ⟨rfl, hb2⟩
        have a2 := hb0.trans (hb2.mono hb0.size)
        go_wp2_with fail
        go_ret2
        exact ⟨rfl, a2⟩
  · simp only [hx, decide_false, if_false] at H54
    rw [annP_not l hx, annV_none]
    clear hx h h1 hdl hq hS hlen H55
    go_enter Tryd.func10, Tryd.ntmps10
    go_wp2_with fail
    refine H54.out.mono ?_
    rintro e w1 ⟨rfl, rfl⟩
    go_wp2_with fail
    go_ret2
    exact ⟨rfl, hb0⟩
end Go.Proofs.YthoccgkkgnlbpaaDoor
