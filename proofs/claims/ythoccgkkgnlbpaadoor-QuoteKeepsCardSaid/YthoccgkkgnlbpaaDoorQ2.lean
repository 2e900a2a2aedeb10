/- The walks of the reference of package quote: Quoted. -/
import Derived.Test.YthoccgkkgnlbpaaDoorQ1
namespace Go.Proofs.YthoccgkkgnlbpaaDoor
open Go.RowKit

theorem conv_piece {w : World} {b o : Nat} {x : UInt8} (c : Nat) (h : w.cell? ⟨b, o, none⟩ = some (.int .u8 (x.toNat : Int))) :
    (convert 22 9 (.slice (some ⟨b, o, none⟩) 1 c)).run Tryd.prog w = .ok (.string (ofL [x])) w :=
  run_convert_bytes_back (P := Tryd.prog) w 22 9 5 ⟨b, o, none⟩ c [x] Tryd.underlying22 Tryd.underlying5 Tryd.underlying9 (fun j hj => by
    obtain rfl : j = 0 := by simpa using hj
    rw [show (⟨b, o, none⟩ : Addr).add 0 = ⟨b, o, none⟩ from rfl, h]; rfl)

theorem grow_app (s x : ByteArray) (l m : List UInt8) (hs : s.data.toList = l) (hx : x = ofL m) : (s ++ x).data.toList = l ++ m := by
  subst hx; rw [ByteArray.data_append, Array.toList_append, hs, ofL_data]

set_option maxRecDepth 100000 in
set_option maxHeartbeats 800000 in
theorem rQuoted_any (p : Option Addr) (cap : Nat) (l : List UInt8) (w : World) (h : Bys w w.heap.size p l) (hl : l.length ≤ 1048576) (hcap : l.length ≤ cap) :
    Calls Tryd.prog 13 #[.slice p l.length cap] w fun e w' => e = .returned (quoV (quoB l)) ∧ w' = w := by
  obtain ⟨o, ho⟩ : ∃ o, quoB l = o := ⟨_, rfl⟩
  have HO := Lib.hid ho
  rw [ho]
  clear ho
  go_enter Tryd.func13, Tryd.ntmps13
  go_wp2_with fail
  go_loop [4, 5] (fun t i => ∃ (k : Nat) (s : ByteArray), k ≤ l.length ∧ i = .int .i64 k ∧ t = .string s ∧ s.data.toList = 34 :: (l.take k).flatMap qesc ∧ (l.take k).all (fun b => textB b.toNat) = true) (fun _ i => l.length - (intOf i).toNat)
  case atStart => exact ⟨0, _, by omega, rfl, rfl, rfl, rfl⟩
  case round =>
    obtain ⟨k, s, hk, rfl, rfl, hs, ha⟩ := hrel
    have A := Lib.hid ha
    have HS := Lib.hid hs
    have hle := qesc_len (l.take k)
    rw [List.length_take, Nat.min_eq_left hk] at hle
    have hsz : s.size ≤ 2 * k + 1 := by
      have := congrArg List.length hs
      rw [List.length_cons, Array.length_toList] at this
      exact Nat.le_trans (Nat.le_of_eq this) (by omega)
    clear ha hs hle
    by_cases hlt : k < l.length
    · obtain ⟨b, off, rfl, hbl, hc⟩ := h (by omega)
      have hce : w.cell? ⟨b, off + k, none⟩ = some (.int .u8 (l[k].toNat : Int)) := hc k hlt
      have hi0 : (0 : Int) ≤ k := by omega
      have hi1 : (k : Int) < l.length := by omega
      have HT := Lib.hid (qesc_take l k hlt)
      have hyes : Hid (textB (l[k].toNat : Int) = true → (l.take (k + 1)).all (fun b => textB b.toNat) = true) := Lib.hid fun hp => take_all_yes hlt A.out hp
      have hno : Hid (textB (l[k].toNat : Int) = false → (l.all fun b => textB b.toNat) = false) := Lib.hid fun hp => take_all_no (q := fun b : UInt8 => textB b.toNat) hlt hp
      clear hc h A
      generalize hx : l[k] = x at HT hyes hno hce
      clear hx
      have hu := x.toNat_lt
      have hcv := conv_piece (cap - k) hce
      have hxl : (ofL [x]).size ≤ 1 := Nat.le_refl _
      generalize hX : ofL [x] = X at hcv hxl
      have HX := Lib.hid hX
      clear hX
      cases hp : textB (x.toNat : Int)
      · have R : Hid (o = none) := Lib.hid (by rw [← HO.out]; exact quoB_bad l (hno.out hp))
        have HP := Lib.hid hp
        clear hp
        go_wp2_with fail
        refine (rText_val _ false _ HP.out (by omega) (by omega)).mono ?_
        rintro e w2 ⟨rfl, rfl⟩
        go_wp2_with fail
        go_ret2
        exact ⟨by rw [R.out]; rfl, rfl⟩
      · have R := Lib.hid (hyes.out hp)
        have HP := Lib.hid hp
        clear hyes hno hp
        by_cases he : x.toNat = 34 ∨ x.toNat = 92
        · have hQ := qesc_yes he
          have HT2 : Hid ((s ++ ⟨#[92]⟩ ++ X).data.toList = 34 :: (l.take (k + 1)).flatMap qesc) := Lib.hid (by
            rw [grow_app _ X _ [x] (grow_app s ⟨#[92]⟩ _ [92] HS.out rfl) HX.out.symm, HT.out, hQ, List.append_assoc]; rfl)
          clear hQ HT
          rcases he with he | he
          all_goals
            have HE := Lib.hid he
            rw [he] at hce
            clear he hu
            go_wp2_with fail
            refine (rText_val _ true _ (by decide +kernel) (by omega) (by omega)).mono ?_
            rintro e w2 ⟨rfl, rfl⟩
            go_wp2_with fail
            go_round
            case rel => exact ⟨k + 1, _, by omega, by go_num, rfl, HT2.out, R.out⟩
            case measure => simp [intOf]; omega
        · have e1 : ((x.toNat : Int) == 34) = false := by rw [beq_eq_false_iff_ne]; omega
          have e2 : ((x.toNat : Int) == 92) = false := by rw [beq_eq_false_iff_ne]; omega
          have HT2 : Hid ((s ++ X).data.toList = 34 :: (l.take (k + 1)).flatMap qesc) := Lib.hid (by
            rw [grow_app s X _ [x] HS.out HX.out.symm, HT.out, qesc_no he]; rfl)
          clear he HT
          go_wp2_with fail
          refine (rText_val _ true _ HP.out (by omega) (by omega)).mono ?_
          rintro e w2 ⟨rfl, rfl⟩
          go_wp2_with fail
          go_round
          case rel => exact ⟨k + 1, _, by omega, by go_num, rfl, HT2.out, R.out⟩
          case measure => simp [intOf]; omega
    · have hall : l.take k = l := List.take_of_length_le (by omega)
      have R : Hid (o = some (34 :: (l.flatMap qesc ++ [34]))) := Lib.hid (by rw [← HO.out]; exact quoB_ok l (by have := A.out; rwa [hall] at this))
      have R2 : Hid (s ++ ⟨#[34]⟩ = ofL (34 :: (l.flatMap qesc ++ [34]))) := Lib.hid (by
        apply ba_ext
        rw [grow_app s ⟨#[34]⟩ _ [34] HS.out rfl, hall, ofL_data]; rfl)
      clear hall h A
      go_wp2_with fail
      go_ret2
      exact ⟨by rw [R.out]; show _ = Ending.returned (.tuple #[.string (ofL _), .bool true]); rw [← R2.out]; rfl, rfl⟩
end Go.Proofs.YthoccgkkgnlbpaaDoor
