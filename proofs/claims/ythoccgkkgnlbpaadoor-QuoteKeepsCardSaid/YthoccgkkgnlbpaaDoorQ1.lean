/- The walks of package quote: Quoted; and its reference. -/
import Derived.Test.YthoccgkkgnlbpaaDoorBld
import Derived.Test.YthoccgkkgnlbpaaDoorScanSpec
import Derived.Test.YthoccgkkgnlbpaaDoorI
namespace Go.Proofs.YthoccgkkgnlbpaaDoor
open Go.RowKit

theorem bld_new (w : World) : Bld w.heap.size w.heap.size [] (w.alloc (.cells #[.pointer none, .slice none 0 0] 46)) :=
  Lib.fresh_isBuilder 46 5 w

set_option maxRecDepth 100000 in
theorem put_any (B b : Nat) (l : List UInt8) (c : UInt8) (v : Int) (hv : (c.toNat : Int) = v) (w : World) (h : Bld B b l w) (hlen : l.length + 1 ≤ 140737488355328) (hBw : B ≤ w.heap.size) :
    Calls Tryd.prog 28 #[.int .u8 v, .pointer (some ⟨b, 0, none⟩)] w fun e w' => e = .returned (.tuple #[]) ∧ Bld B b (l ++ [c]) w' ∧ Below B w w' := by
  have H := Lib.hid (bld_byte B b l c w h hlen hBw)
  rw [hv] at H
  clear h hv
  go_enter Tryd.func28, Tryd.ntmps28
  go_wp2_with fail
  refine H.out.mono ?_
  rintro e w1 ⟨rfl, hb, hw⟩
  go_wp2_with fail
  go_end0
  exact ⟨rfl, hb, hw⟩

theorem text_val (c : Int) (b : Bool) (w : World) (hb : textB c = b) (hc : 0 ≤ c) (hc2 : c < 256) :
    Calls Tryd.prog 30 #[.int .u8 c] w fun e w' => e = .returned (.bool b) ∧ w' = w := by
  subst hb; exact text_any c w hc hc2
theorem rText_val (c : Int) (b : Bool) (w : World) (hb : textB c = b) (hc : 0 ≤ c) (hc2 : c < 256) :
    Calls Tryd.prog 32 #[.int .u8 c] w fun e w' => e = .returned (.bool b) ∧ w' = w := by
  subst hb; exact rText_any c w hc hc2

def quoV (o : Option (List UInt8)) : Value := match o with
  | none => .tuple #[.string ⟨#[]⟩, .bool false]
  | some x => .tuple #[.string (ofL x), .bool true]

theorem bys_byte {w : World} {B b o : Nat} {l : List UInt8} {k : Nat} (hc : ∀ i (h : i < l.length), w.cell? ⟨b, o + i, none⟩ = some (.int .u8 (l[i].toNat : Int))) (hk : k < l.length) : w.cell? ⟨b, o + k, none⟩ = some (.int .u8 (l[k].toNat : Int)) := hc k hk

theorem qesc_len (l : List UInt8) : (l.flatMap qesc).length ≤ 2 * l.length := by
  induction l with
  | nil => simp
  | cons c l ih =>
    rw [List.flatMap_cons, List.length_append, List.length_cons]
    have : (qesc c).length ≤ 2 := by unfold qesc; split <;> simp
    omega
theorem qesc_take (l : List UInt8) (k : Nat) (hk : k < l.length) : (l.take (k + 1)).flatMap qesc = (l.take k).flatMap qesc ++ qesc l[k] := by
  rw [List.take_succ_eq_append_getElem hk, List.flatMap_append]; simp
theorem qesc_yes {c : UInt8} (h : c.toNat = 34 ∨ c.toNat = 92) : qesc c = [92] ++ [c] := by unfold qesc; rw [if_pos h]; rfl
theorem qesc_no {c : UInt8} (h : ¬ (c.toNat = 34 ∨ c.toNat = 92)) : qesc c = [c] := by unfold qesc; rw [if_neg h]
theorem quoB_bad (l : List UInt8) (h : l.all (fun b => textB b.toNat) = false) : quoB l = none := by unfold quoB; rw [if_neg (by rw [h]; simp)]
theorem quoB_ok (l : List UInt8) (h : l.all (fun b => textB b.toNat) = true) : quoB l = some (34 :: (l.flatMap qesc ++ [34])) := by unfold quoB; rw [if_pos h]

set_option maxRecDepth 100000 in
set_option maxHeartbeats 800000 in
theorem quoted_any (p : Option Addr) (cap : Nat) (l : List UInt8) (w : World) (h : Bys w w.heap.size p l) (hl : l.length ≤ 1048576) :
    Calls Tryd.prog 12 #[.slice p l.length cap] w fun e w' => e = .returned (quoV (quoB l)) ∧ Below w.heap.size w w' := by
  have hmf : ∀ (fn : Fn) (first cap : Array Value) (w : World), (Instr.makeFunc fn first cap).run Tryd.prog w = .ok (.func fn first cap) w := fun _ _ _ _ => rfl
  obtain ⟨o, ho⟩ : ∃ o, quoB l = o := ⟨_, rfl⟩
  have HO := Lib.hid ho
  rw [ho]
  clear ho
  have hb0 := bld_new w
  have H1 := Lib.hid (put_any w.heap.size w.heap.size [] 34 34 rfl _ hb0 (by simp) (by simp))
  clear hb0
  go_enter Tryd.func12, Tryd.ntmps12
  go_wp2_with fail
  refine H1.out.mono ?_
  rintro e w1 ⟨rfl, hb1, hw1⟩
  have a1 := ((Below.refl w.heap.size w).alloc (Nat.le_refl _) (.cells #[.pointer none, .slice none 0 0] 46)).trans hw1
  clear H1 hw1
  go_wp2_with fail
  go_loopw [13] (fun i wr => ∃ k : Nat, k ≤ l.length ∧ i = .int .i64 k ∧ Bld w.heap.size w.heap.size (34 :: (l.take k).flatMap qesc) wr ∧ Below w.heap.size w wr ∧ (l.take k).all (fun b => textB b.toNat) = true) (fun i _ => l.length - (intOf i).toNat)
  case atStart => exact ⟨0, by omega, rfl, hb1, a1, rfl⟩
  case round =>
    obtain ⟨k, hk, rfl, hb, hw, ha⟩ := hrel
    clear hb1 a1
    have A := Lib.hid ha
    have HB := Lib.hid hb
    clear ha hb
    have hle := qesc_len (l.take k)
    rw [List.length_take, Nat.min_eq_left hk] at hle
    by_cases hlt : k < l.length
    · obtain ⟨b, off, rfl, hbl, hc⟩ := (h.below hw) (by omega)
      have hce : wr.cell? ⟨b, off + k, none⟩ = some (.int .u8 (l[k].toNat : Int)) := hc k hlt
      have hi0 : (0 : Int) ≤ k := by omega
      have hi1 : (k : Int) < l.length := by omega
      have HT := Lib.hid (qesc_take l k hlt)
      have hyes : Hid (textB (l[k].toNat : Int) = true → (l.take (k + 1)).all (fun b => textB b.toNat) = true) := Lib.hid fun hp => take_all_yes hlt A.out hp
      have hno : Hid (textB (l[k].toNat : Int) = false → (l.all fun b => textB b.toNat) = false) := Lib.hid fun hp => take_all_no (q := fun b : UInt8 => textB b.toNat) hlt hp
      clear hc h A
      generalize hx : l[k] = x at HT hyes hno hce
      clear hx
      have hu := x.toNat_lt
      have hBw := hw.size
      cases hp : textB (x.toNat : Int)
      · have R : Hid (o = none) := Lib.hid (by rw [← HO.out]; exact quoB_bad l (hno.out hp))
        have HP := Lib.hid hp
        clear hp
        go_wp2_with fail
        refine (text_val _ false _ HP.out (by omega) (by omega)).mono ?_
        rintro e w2 ⟨rfl, rfl⟩
        go_wp2_with fail
        go_ret2
        exact ⟨by rw [R.out]; rfl, hw⟩
      · have R := Lib.hid (hyes.out hp)
        have HP := Lib.hid hp
        clear hyes hno hp
        by_cases he : x.toNat = 34 ∨ x.toNat = 92
        · have hQ := qesc_yes he
          have HT2 : Hid (34 :: (l.take (k + 1)).flatMap qesc = 34 :: (l.take k).flatMap qesc ++ [92] ++ [x]) := Lib.hid (by rw [HT.out, hQ, List.append_assoc]; rfl)
          have hp1 := Lib.hid (put_any w.heap.size w.heap.size _ 92 92 rfl wr HB.out (by rw [List.length_cons]; omega) hBw)
          have hp2 := Lib.hid fun v (hv : (x.toNat : Int) = v) W (hW : Below w.heap.size w W) (hB : Bld w.heap.size w.heap.size (34 :: (l.take k).flatMap qesc ++ [92]) W) => put_any w.heap.size w.heap.size _ x v hv W hB (by rw [List.length_append, List.length_cons, List.length_singleton]; omega) hW.size
          clear hQ HB HT
          rcases he with he | he
          all_goals
            rw [he] at hce
            have HE := Lib.hid he
            clear he hu
            go_wp2_with fail
            refine (text_val _ true _ (by decide +kernel) (by omega) (by omega)).mono ?_
            rintro e w2 ⟨rfl, rfl⟩
            go_wp2_with fail
            refine hp1.out.mono ?_
            rintro e w3 ⟨rfl, hb3, hw3⟩
            have a3 := hw.trans hw3
            go_wp2_with fail
            refine (hp2.out _ (by rw [HE.out]; rfl) _ a3 hb3).mono ?_
            rintro e w4 ⟨rfl, hb4, hw4⟩
            have a4 := a3.trans hw4
            go_wp2_with fail
            go_roundw
            case rel => exact ⟨k + 1, by omega, by go_num, by rw [HT2.out]; exact hb4, a4, R.out⟩
            case measure => simp [intOf]; omega
        · have e1 : ((x.toNat : Int) == 34) = false := by rw [beq_eq_false_iff_ne]; omega
          have e2 : ((x.toNat : Int) == 92) = false := by rw [beq_eq_false_iff_ne]; omega
          have HT2 : Hid (34 :: (l.take (k + 1)).flatMap qesc = 34 :: (l.take k).flatMap qesc ++ [x]) := Lib.hid (by rw [HT.out, qesc_no he]; rfl)
          have hp2 := Lib.hid (put_any w.heap.size w.heap.size _ x (x.toNat : Int) rfl wr HB.out (by rw [List.length_cons]; omega) hBw)
          clear he HB HT
          go_wp2_with fail
          refine (text_val _ true _ HP.out (by omega) (by omega)).mono ?_
          rintro e w2 ⟨rfl, rfl⟩
          go_wp2_with fail
          refine hp2.out.mono ?_
          rintro e w4 ⟨rfl, hb4, hw4⟩
          have a4 := hw.trans hw4
          go_wp2_with fail
          go_roundw
          case rel => exact ⟨k + 1, by omega, by go_num, by rw [HT2.out]; exact hb4, a4, R.out⟩
          case measure => simp [intOf]; omega
    · have hall : l.take k = l := List.take_of_length_le (by omega)
      have R : Hid (o = some (34 :: (l.flatMap qesc ++ [34]))) := Lib.hid (by rw [← HO.out]; exact quoB_ok l (by have := A.out; rwa [hall] at this))
      have hBw := hw.size
      have hp1 := Lib.hid (put_any w.heap.size w.heap.size _ 34 34 rfl wr HB.out (by rw [List.length_cons]; omega) hBw)
      rw [hall] at hp1
      clear hall h A HB
      go_wp2_with fail
      refine hp1.out.mono ?_
      rintro e w3 ⟨rfl, hb3, hw3⟩
      have a3 := hw.trans hw3
      have hst := Lib.hid (Tryd.Builder_String_any w.heap.size w.heap.size _ w3 hb3 a3.size)
      generalize hr : (34 :: l.flatMap qesc ++ [34]).toArray = r at hst
      have R2 : Hid (ByteArray.mk r = ofL (34 :: (l.flatMap qesc ++ [34]))) := Lib.hid (by rw [← hr]; rfl)
      clear hr hp1
      go_wp2_with fail
      refine hst.out.mono ?_
      rintro e w4 ⟨rfl, hw4⟩
      have a4 := a3.trans hw4
      go_wp2_with fail
      go_ret2
      exact ⟨by rw [R.out]; show _ = Ending.returned (.tuple #[.string (ofL _), .bool true]); rw [← R2.out]; rfl, a4⟩
end Go.Proofs.YthoccgkkgnlbpaaDoor
