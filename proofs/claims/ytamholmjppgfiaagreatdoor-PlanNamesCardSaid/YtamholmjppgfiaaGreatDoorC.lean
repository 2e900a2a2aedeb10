/- The walks of package char: Upper and Same, with their references. -/
import Derived.Test.YtamholmjppgfiaaGreatDoorB
import Derived.Lib.ConvBytes
import Derived.Lib.AtoiErrMem
set_option linter.unusedVariables false
set_option linter.unusedSimpArgs false
namespace Go.Proofs.YtamholmjppgfiaaGreatDoor
open Go.RowKit

/-- From cell 0 on, block B holds the bytes l, and they may be written. -/
def BytesAt (w : World) (B : Nat) (l : List UInt8) : Prop :=
  ∀ j (h : j < l.length), w.cell? ⟨B, j, none⟩ = some (.int .u8 (l[j].toNat : Int)) ∧ w.frozen? ⟨B, j, none⟩ = false
section
variable {w w' : World} {B : Nat} {l : List UInt8}
theorem BytesAt.drew (h : BytesAt w B l) : BytesAt w.drew B l := h
theorem BytesAt.past (h : BytesAt w B l) (hB : B < w.heap.size) (o : Obj) : BytesAt (w.alloc o) B l := fun j hj => by
  have hb := (Below.refl w.heap.size w).alloc (Nat.le_refl _) o
  exact ⟨(hb.cell (p := ⟨B, j, none⟩) hB).trans (h j hj).1, (hb.frozen (p := ⟨B, j, none⟩) hB).trans (h j hj).2⟩
theorem BytesAt.below {C : Nat} (h : BytesAt w B l) (hb : Below C w w') (hB : B < C) : BytesAt w' B l := fun j hj =>
  ⟨(hb.cell (p := ⟨B, j, none⟩) hB).trans (h j hj).1, (hb.frozen (p := ⟨B, j, none⟩) hB).trans (h j hj).2⟩
theorem BytesAt.put (h : BytesAt w B l) (k : Nat) (hk : k < l.length) (u : UInt8) : BytesAt (w.setCell ⟨B, k, none⟩ (.int .u8 (u.toNat : Int))) B (l.set k u) := fun j hj => by
  have hj' : j < l.length := by simpa using hj
  refine ⟨?_, ?_⟩
  · by_cases e : k = j
    · subst e
      rw [World.cell?_setCell_same _ _ _ (h k hk).1]; simp
    · rw [World.cell?_setCell_other _ _ _ _ (by simp [e]), (h j hj').1]
      simp [List.getElem_set, e]
  · rw [World.frozen?_setCell]; exact (h j hj').2
end

def upB (b : UInt8) : UInt8 := if 97 ≤ b.toNat ∧ b.toNat ≤ 122 then b - 32 else b

theorem upper2_any (u x : UInt8) (w : World) (hx : upB u = x) :
    Calls Tryz.prog 60 #[.int .u8 (u.toNat : Int)] w fun e w' => e = .returned (.int .u8 (x.toNat : Int)) ∧ w' = w := by
  have hu := u.toNat_lt
  by_cases h : 97 ≤ u.toNat ∧ u.toNat ≤ 122
  · refine (upper2_yes _ w (by omega) (by omega)).mono ?_
    rintro e w' ⟨rfl, rfl⟩
    subst hx
    unfold upB
    rw [if_pos h, UInt8.toNat_sub_of_le _ _ (by rw [UInt8.le_iff_toNat_le]; show 32 ≤ _; omega)]
    refine ⟨?_, rfl⟩
    rw [show ((u.toNat - (32 : UInt8).toNat : Nat) : Int) = (u.toNat : Int) - 32 from by show ((u.toNat - 32 : Nat) : Int) = _; omega]
  · refine (upper2_no _ w (by omega)).mono ?_
    rintro e w' ⟨rfl, rfl⟩
    subst hx
    unfold upB
    rw [if_neg h]
    exact ⟨rfl, rfl⟩

theorem up_step (l : List UInt8) (k : Nat) (hk : k < l.length) : ((l.take k).map upB ++ l.drop k).set k (upB l[k]) = (l.take (k + 1)).map upB ++ l.drop (k + 1) := by
  rw [List.set_append_right _ _ (by simp; omega)]
  have e : k - ((l.take k).map upB).length = 0 := by simp; omega
  rw [e, List.drop_eq_getElem_cons hk, List.set_cons_zero, List.take_succ_eq_append_getElem hk, List.map_append]
  simp only [List.map_cons, List.map_nil, List.append_assoc, List.cons_append, List.nil_append]

set_option maxRecDepth 100000 in
set_option maxHeartbeats 400000 in
theorem upper1_any (V B cap : Nat) (l : List UInt8) (w : World) (hl : l.length ≤ maxLen) (hV : w.cell? ⟨V, 0, none⟩ = some (.slice (some ⟨B, 0, none⟩) l.length cap)) (hB : BytesAt w B l) (hne : V ≠ B) :
    Calls Tryz.prog 59 #[.func (.func 60) #[] #[], .pointer (some ⟨V, 0, none⟩)] w fun e w' => e = .returned (.tuple #[]) ∧ BytesAt w' B (l.map upB) ∧ Below B w w' ∧ w'.cell? ⟨V, 0, none⟩ = some (.slice (some ⟨B, 0, none⟩) l.length cap) := by
  unfold maxLen at hl
  go_enter Tryz.func59, Tryz.ntmps59
  go_wp2_with fail
  go_loopw [7] (fun i wr => ∃ k : Nat, k ≤ l.length ∧ i = .int .i64 k ∧ BytesAt wr B ((l.take k).map upB ++ l.drop k) ∧ Below B w wr ∧ wr.cell? ⟨V, 0, none⟩ = some (.slice (some ⟨B, 0, none⟩) l.length cap)) (fun i _ => l.length - (intOf i).toNat)
  case atStart => exact ⟨0, by omega, rfl, by simpa using hB, Below.refl _ _, hV⟩
  case round =>
    obtain ⟨k, hk, rfl, hb, hw, hv⟩ := hrel
    clear hV hB
    have H1 := Lib.hid hb
    clear hb
    by_cases hlt : k < l.length
    · have hi0 : (0 : Int) ≤ k := by omega
      have hi1 : (k : Int) < l.length := by omega
      have hce : wr.cell? ⟨B, k, none⟩ = some (.int .u8 (l[k].toNat : Int)) := by
        rw [(H1.out k (by simp; omega)).1]; simp [List.getElem_append, Nat.min_eq_left hk]
      have hfz : wr.frozen? ⟨B, k, none⟩ = false := (H1.out k (by simp; omega)).2
      obtain ⟨x, hx⟩ : ∃ x, upB l[k] = x := ⟨_, rfl⟩
      have hs := up_step l k hlt
      rw [hx] at hs
      have HS := Lib.hid hs
      have HX := Lib.hid hx
      clear hs hx
      go_wp2_with fail
      go_region_with (go_at_call 60; refine (upper2_any _ x _ HX.out).mono ?_; rintro e w' ⟨rfl, rfl⟩)
      all_goals
        go_wp2_with fail
        go_roundw
        case rel =>
          refine ⟨k + 1, by omega, by go_num, ?_, (hw.setCell (Nat.le_refl _) _).drew, ?_⟩
          · rw [← HS.out]; exact (H1.out.put k (by simp; omega) x).drew
          · rw [← hv]; exact World.cell?_setCell_other _ _ _ _ (by simp [hne])
        case measure => simp [intOf]; omega
    · have R : Hid (BytesAt wr B (l.map upB)) := Lib.hid (by have := H1.out; rwa [List.take_of_length_le (by omega), List.drop_eq_nil_of_le (by omega), List.append_nil] at this)
      go_wp2_with fail
      go_end0
      exact ⟨rfl, R.out, hw, hv⟩

theorem bytesAt_conv (w : World) (e : TypeId) (s : ByteArray) : BytesAt (Lib.bytesWorld w e s) w.heap.size s.data.toList := fun j hj => by
  have hj' : j < s.size := by simpa using hj
  refine ⟨?_, ?_⟩
  · rw [Lib.bytesWorld_cell w e s j hj', List.getD_eq_getElem?_getD, List.getElem?_eq_getElem hj]; rfl
  · have := Lib.bytesWorld_at_new w e s
    simp [World.frozen?, this, Lib.bytesCells]
    omega

set_option maxRecDepth 100000 in
set_option maxHeartbeats 400000 in
theorem upper_any (s : ByteArray) (w : World) (hs : s.size ≤ maxLen) :
    Calls Tryz.prog 51 #[.string s] w fun e w' => e = .returned (.string ⟨(s.data.toList.map upB).toArray⟩) ∧ Below w.heap.size w w' := by
  have hcv := fun (W : World) => Lib.run_convert_string_bytes (P := Tryz.prog) W 9 42 5 s Tryz.underlying9 Tryz.underlying42 Tryz.underlying5
  have hba := bytesAt_conv w 5 s
  have hbw := Lib.bytesWorld_below w 5 s
  have hbs := Lib.bytesWorld_size w 5 s
  have hmf : ∀ (fn : Fn) (first cap : Array Value) (w : World), (Instr.makeFunc fn first cap).run Tryz.prog w = .ok (.func fn first cap) w := fun _ _ _ _ => rfl
  generalize hW : Lib.bytesWorld w 5 s = W at hba hbw hbs
  have HW := Lib.hid hW
  clear hW
  go_enter Tryz.func51, Tryz.ntmps51
  go_wp2_with fail
  rw [HW.out]
  clear HW hcv hmf
  generalize grownCap w s.size 0 5 = cap
  have HBS := Lib.hid hbs
  have hlen : s.size = s.data.toList.length := by simp
  have hltW : w.heap.size < W.heap.size := by omega
  rw [hlen] at hs
  have hvc : (W.alloc (.cells #[.slice (some ⟨w.heap.size, 0, none⟩) s.size cap] 42)).cell? ⟨W.heap.size, 0, none⟩ = some (.slice (some ⟨w.heap.size, 0, none⟩) s.data.toList.length cap) := by
    rw [(Blk.made W 42 _).cell, hlen]; rfl
  have hup := upper1_any W.heap.size w.heap.size cap s.data.toList _ hs hvc (hba.past hltW _) (by omega)
  have hlen' : s.data.toList.length = s.size := hlen.symm
  have HL := Lib.hid hlen'
  clear hba hbs hlen hvc
  refine hup.mono ?_
  rintro e w4 ⟨rfl, hb4, hw4, hv4⟩
  have hw5 := (hbw.trans (((Below.refl _ _).alloc (Nat.le_refl _) _).mono (Nat.le_of_lt hltW))).trans hw4
  have hcb := run_convert_bytes_back (P := Tryz.prog) w4 42 9 5 ⟨w.heap.size, 0, none⟩ cap (s.data.toList.map upB) Tryz.underlying42 Tryz.underlying5 Tryz.underlying9 (fun j hj => by
    have := (hb4 j hj).1
    rw [show (⟨w.heap.size, 0, none⟩ : Addr).add j = ⟨w.heap.size, j, none⟩ from by unfold Addr.add; split <;> simp_all]
    exact this)
  rw [List.length_map, HL.out] at hcb
  rw [HL.out] at hv4
  generalize hR : (List.map upB s.data.toList).toArray = R at hcb ⊢
  have HR := Lib.hid hR
  clear hR hw4 hb4 hup hlen'
  go_wp2_with fail
  go_ret
  exact ⟨by rw [HR.out]; rfl, hw5⟩

def upS (s : ByteArray) : ByteArray := ⟨(s.data.toList.map upB).toArray⟩
theorem upS_size (s : ByteArray) : (upS s).size = s.size := by
  show (s.data.toList.map upB).toArray.size = _
  rw [List.size_toArray, List.length_map, Array.length_toList]; rfl
theorem upper_upS (s : ByteArray) (w : World) (hs : s.size ≤ maxLen) :
    Calls Tryz.prog 51 #[.string s] w fun e w' => e = .returned (.string (upS s)) ∧ Below w.heap.size w w' := upper_any s w hs

/-- Go's == on strings, as the walk spells it. -/
def eqS (x y : ByteArray) : Bool := x.toList == y.toList
theorem eqS_iff (x y : ByteArray) : eqS x y = true ↔ x = y := by
  unfold eqS
  rw [beq_iff_eq, ByteArray.toList_eq, ByteArray.toList_eq]
  exact ⟨fun h => by cases x; cases y; congr; exact Array.toList_inj.1 h, fun h => by rw [h]⟩

theorem same_any (a b : ByteArray) (w : World) (ha : a.size ≤ maxLen) (hb : b.size ≤ maxLen) :
    Calls Tryz.prog 39 #[.string a, .string b] w fun e w' => e = .returned (.bool (eqS (upS a) (upS b))) ∧ Below w.heap.size w w' := by
  go_enter Tryz.func39, Tryz.ntmps39
  go_wp2_with fail
  refine (upper_upS a _ ha).mono ?_
  rintro e w1 ⟨rfl, hb1⟩
  generalize hx : upS a = x
  have HX := Lib.hid hx
  clear hx
  go_wp2_with fail
  refine (upper_upS b _ hb).mono ?_
  rintro e w2 ⟨rfl, hb2⟩
  generalize hy : upS b = y
  have HY := Lib.hid hy
  clear hy
  go_wp2_with fail
  go_ret
  exact ⟨by rw [HX.out, HY.out]; rfl, hb1.trans (hb2.mono hb1.size)⟩
end Go.Proofs.YtamholmjppgfiaaGreatDoor
