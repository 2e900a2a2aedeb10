/- The walks of flag.Name and flag.byName. -/
import Derived.Test.YtbbfajjbpalfeaaDoorFlag1
import Derived.Test.YtbbfajjbpalfeaaDoorStd
import Derived.Test.YtbbfajjbpalfeaaDoorShelf
import Derived.Test.YtbbfajjbpalfeaaDoorMp
namespace Go.Proofs.YtbbfajjbpalfeaaDoor
open Go.RowKit

def strsV (l : List (List UInt8)) : Array Value := (l.map fun x => Value.string (ofL x)).toArray
theorem strsV_at (l : List (List UInt8)) (k : Nat) (h : k < l.length) : (strsV l)[k]? = some (.string (ofL l[k])) := by simp [strsV, h]
/-- strings.Fields at an ASCII string. -/
theorem fields_at (s : ByteArray) (l : List (List UInt8)) (w : World) (hS : StdA w) (hs : s.size < 4294967281) (ha : s.data.toList.all (fun b => b.toNat < 128) = true) (hl : Lib.fields s.data.toList = l) :
    Calls Tryd.prog 19 #[.string s] w fun e w' => e = .returned (.slice (some ⟨w.heap.size, 0, none⟩) l.length l.length) ∧ Blk w' w.heap.size 9 (strsV l) ∧ Below w.heap.size w w' := by
  subst hl
  refine (Tryd.strings_Fields_laid s w hs (fun j b hb => ?_) hS.asc).mono ?_
  · rw [List.all_eq_true] at ha
    simpa using ha b (List.mem_of_getElem? hb)
  · rintro e w' ⟨rfl, rfl⟩
    exact ⟨rfl, Blk.made _ _ _, (Below.refl _ _).alloc (Nat.le_refl _) _⟩

theorem fname_pow (k : Nat) (hk : k < 5) : fname (2 ^ k) = fnames.getD k [] := by
  have h : ∀ k : Fin 5, fname (2 ^ k.val) = fnames.getD k.val [] := by decide
  exact h ⟨k, hk⟩
theorem fname_none (f : Nat) (h : ∀ j, j < 5 → f ≠ 2 ^ j) : fname f = [] := by
  unfold fname
  rw [if_neg (h 0 (by omega)), if_neg (h 1 (by omega)), if_neg (h 2 (by omega)), if_neg (h 3 (by omega)), if_neg (h 4 (by omega))]

set_option maxRecDepth 100000 in
set_option maxHeartbeats 800000 in
theorem name_any (f : Nat) (hf : f < 256) (w : World) (hS : StdA w) :
    Calls Tryd.prog 10 #[.int .u8 f] w fun e w' => e = .returned (.string (ofL (fname f))) ∧ Below w.heap.size w w' := by
  have HF := Lib.hid (fields_at ⟨#[92, 65, 110, 115, 119, 101, 114, 101, 100, 32, 92, 70, 108, 97, 103, 103, 101, 100, 32, 92, 68, 101, 108, 101, 116, 101, 100, 32, 92, 83, 101, 101, 110, 32, 92, 68, 114, 97, 102, 116]⟩ fnames w hS (by decide) (by decide) (by decide +kernel))
  clear hS
  go_enter Tryd.func10, Tryd.ntmps10
  go_wp2_with fail
  refine HF.out.mono ?_
  rintro e w1 ⟨rfl, hblk, hb⟩
  have HB := Lib.hid hb
  have HC := Lib.hid (fun k (hk : k < 5) => (show w1.cell? ⟨w.heap.size, k, none⟩ = some (.string (ofL (fnames.getD k []))) by
    rw [hblk.cell, strsV_at _ _ (show k < fnames.length from hk)]
    rw [List.getD_eq_getElem?_getD, List.getElem?_eq_getElem (show k < fnames.length from hk)]; rfl))
  clear hblk hb HF
  rw [show fnames.length = 5 from rfl]
  go_wp2_with fail
  go_loop [7] (fun i => ∃ k : Nat, k ≤ 5 ∧ i = .int .i64 k ∧ ∀ j, j < k → f ≠ 2 ^ j) (fun i => 5 - (intOf i).toNat)
  case atStart => exact ⟨0, by omega, rfl, fun j hj => absurd hj (by omega)⟩
  case round =>
    obtain ⟨k, hk, rfl, hno⟩ := hrel
    have HNO := Lib.hid hno
    clear hno
    by_cases hlt : k < 5
    · have hc := HC.out k hlt
      have h2 : (2 ^ k : Nat) < 256 := by
        have : ∀ k : Fin 5, (2 ^ k.val : Nat) < 256 := by decide
        exact this ⟨k, hlt⟩
      have e2 : (2 ^ k % 256 : Int) = ((2 ^ k : Nat) : Int) := by
        rw [Int.emod_eq_of_lt (by exact_mod_cast Nat.zero_le _) (by exact_mod_cast h2)]; push_cast; rfl
      by_cases hfk : f = 2 ^ k
      · have R := Lib.hid (show fname f = fnames.getD k [] by rw [hfk]; exact fname_pow k hlt)
        have hd : ((f : Int) == 2 ^ k % 256) = true := by rw [beq_iff_eq, e2, hfk]
        clear e2 hfk h2
        generalize fnames.getD k [] = nm at hc R
        go_wp2_with fail
        go_ret
        exact ⟨by rw [R.out]; rfl, HB.out⟩
      · have hd : ((f : Int) == 2 ^ k % 256) = false := by rw [beq_eq_false_iff_ne, e2]; exact fun e => hfk (by exact_mod_cast e)
        have HFK := Lib.hid hfk
        clear e2 hfk h2
        generalize fnames.getD k [] = nm at hc
        go_wp2_with fail
        go_round
        case rel => exact ⟨k + 1, by omega, by go_num, fun j hj => by
          rcases Nat.lt_or_ge j k with h | h
          · exact HNO.out j h
          · obtain rfl : j = k := by omega
            exact HFK.out⟩
        case measure => simp [intOf]; omega
    · obtain rfl : k = 5 := by omega
      have R := Lib.hid (fname_none f HNO.out)
      go_wp2_with fail
      go_ret
      exact ⟨by rw [R.out]; rfl, HB.out⟩

/-- The map that byName makes. -/
def tabK : List (ByteArray × Value) := flagTab.map fun p => (ofL p.1, Value.int .u8 (p.2 : Int))
theorem tabK_next (k : Nat) (hk : k < 5) : tabK.take (k + 1) = tabK.take k ++ [(upS (ofL (fname (2 ^ k))), .int .u8 ((2 ^ k : Nat) : Int))] := by
  have h : ∀ k : Fin 5, tabK.take (k.val + 1) = tabK.take k.val ++ [(upS (ofL (fname (2 ^ k.val))), .int .u8 ((2 ^ k.val : Nat) : Int))] := by
    intro k
    match k with
    | 0 => rfl
    | 1 => rfl
    | 2 => rfl
    | 3 => rfl
    | 4 => rfl
  exact h ⟨k, hk⟩
theorem tabK_new (k : Nat) (hk : k < 5) : lookK (tabK.take k) (upS (ofL (fname (2 ^ k)))) = none := by
  have h : ∀ k : Fin 5, (lookK (tabK.take k.val) (upS (ofL (fname (2 ^ k.val))))).isNone = true := by decide +kernel
  exact Option.isNone_iff_eq_none.1 (h ⟨k, hk⟩)
theorem each31 : eachL 31 = [1, 2, 4, 8, 16] := by decide
theorem each31_at (k : Nat) (hk : k < 5) : (flV (eachL 31))[k]? = some (.int .u8 ((2 ^ k : Nat) : Int)) := by
  have h : ∀ k : Fin 5, (flV (eachL 31))[k.val]? = some (.int .u8 ((2 ^ k.val : Nat) : Int)) := by
    intro k
    match k with
    | 0 => rfl
    | 1 => rfl
    | 2 => rfl
    | 3 => rfl
    | 4 => rfl
  exact h ⟨k, hk⟩
/-- What a slice of the call's own reads as. -/
theorem Buf.at {w : World} {base n : Nat} {v : Value} {xs : List Value} (h : Buf w base 1 v n xs) (h0 : 0 < n) : ∃ g off cap, v = .slice (some ⟨g, off, none⟩) n cap ∧ base ≤ g ∧ g < w.heap.size ∧ n ≤ cap ∧ ∀ j u, xs[j]? = some u → w.cell? ⟨g, off + j, none⟩ = some u := by
  rcases h.2 with ⟨_, h2⟩ | ⟨g, off, cap, rfl, hg, hlt, hnc, hc, _⟩
  · omega
  · exact ⟨g, off, cap, rfl, hg, hlt, hnc, hc⟩

set_option maxRecDepth 100000 in
set_option maxHeartbeats 1600000 in
theorem byName_any (w : World) (hS : StdA w) :
    Calls Tryd.prog 22 #[] w fun e w' => ∃ b, e = .returned (.map (some b)) ∧ w.heap.size ≤ b ∧ KMap w' b Value.string tabK ∧ Below w.heap.size w w' := by
  have hmm := @run_makeMap Tryd.prog
  have hm0 : KMap (w.alloc (.map #[] 0)) w.heap.size Value.string ([] : List (ByteArray × Value)) := KMap.made w
  have hb0 : Below w.heap.size w (w.alloc (.map #[] 0)) := (Below.refl _ _).alloc (Nat.le_refl _) _
  have HE := Lib.hid (each_any 31 (by decide) (w.alloc (.map #[] 0)))
  have H0 := Lib.hid (And.intro hm0 (And.intro hb0 hS))
  clear hm0 hb0 hS
  go_enter Tryd.func22, Tryd.ntmps22
  go_wp2_with fail
  refine HE.out.mono ?_
  rintro e w1 ⟨v, rfl, hbuf, hb1⟩
  rw [each31] at hbuf
  obtain ⟨g, off, cap, rfl, hg, hlt, -, hc⟩ := hbuf.at (by decide)
  rw [← each31] at hc
  obtain ⟨hm0, hb0, hS⟩ := H0.out
  have hm1 := hm0.below hb1 (by rw [World.size_alloc]; omega)
  have hbw1 : Below w.heap.size w w1 := hb0.trans (hb1.mono hb0.size)
  have HC := Lib.hid (fun k (hk : k < 5) => hc k _ (each31_at k hk))
  have HS := Lib.hid hS
  have hgw : w.heap.size < g := by rw [World.size_alloc] at hg; omega
  clear hmm hbuf hc hm0 hb0 hS H0 HE hb1 hg
  rw [show ([1, 2, 4, 8, 16] : List Nat).length = 5 from rfl]
  go_wp2_with fail
  go_loopw [7] (fun i wr => ∃ k : Nat, k ≤ 5 ∧ i = .int .i64 k ∧ KMap wr w.heap.size Value.string (tabK.take k) ∧ Below w.heap.size w wr ∧ (∀ k, k < 5 → wr.cell? ⟨g, off + k, none⟩ = some (.int .u8 ((2 ^ k : Nat) : Int)))) (fun i _ => 5 - (intOf i).toNat)
  case atStart => exact ⟨0, by omega, rfl, hm1, hbw1, HC.out⟩
  case round =>
    obtain ⟨k, hk, rfl, hm, hb, hcells⟩ := hrel
    by_cases hlt5 : k < 5
    · have hck := hcells k hlt5
      have h2 : (2 ^ k : Nat) < 256 := by
        have : ∀ k : Fin 5, (2 ^ k.val : Nat) < 256 := by decide
        exact this ⟨k, hlt5⟩
      have HN := Lib.hid (name_any (2 ^ k) h2 wr (HS.out.below hb))
      have HT := Lib.hid (And.intro (tabK_next k hlt5) (tabK_new k hlt5))
      have HM := Lib.hid (And.intro hm (And.intro hb hcells))
      have hsz : (fname (2 ^ k)).length ≤ 9 := by
        have : ∀ k : Fin 5, (fname (2 ^ k.val)).length ≤ 9 := by decide
        exact this ⟨k, hlt5⟩
      generalize (2 ^ k : Nat) = x at hck HN HT hsz
      clear hm hb hcells hm1 hbw1 HC h2
      go_wp2_with fail
      refine HN.out.mono ?_
      rintro e w2 ⟨rfl, hb2⟩
      have HU := Lib.hid (upper_upS (ofL (fname x)) w2 (by show (fname x).toArray.size ≤ _; rw [List.size_toArray]; unfold maxLen; omega))
      have HB2 := Lib.hid hb2
      clear hb2
      go_wp2_with fail
      refine HU.out.mono ?_
      rintro e w3 ⟨rfl, hb3⟩
      obtain ⟨hm, hb, hcells⟩ := HM.out
      have hb23 : Below wr.heap.size wr w3 := HB2.out.trans (hb3.mono HB2.out.size)
      have hm3 := hm.below hb23 hm.lt
      obtain ⟨w4, hrun, hm4, hg4⟩ := hm3.put (Kp.str Tryd.underlying9) Tryd.underlying41 (upS (ofL (fname x))) (.int .u8 (x : Int)) HT.out.2
      rw [← HT.out.1] at hm4
      have hb4 : Below w.heap.size w w4 := ((hb.trans (hb23.mono hb.size)).grown hg4 (by have := hb.size; have := hb23.size; omega) (fun j hj => by injection hj with hj; omega))
      have hc4 : ∀ k, k < 5 → w4.cell? ⟨g, off + k, none⟩ = some (.int .u8 ((2 ^ k : Nat) : Int)) := fun j hj => by
        have e1 := hcells j hj
        have e2 := cell_stays e1 hb23
        exact hg4.cell e2 (by simp only [ne_eq, Option.some.injEq]; omega)
      have HR := Lib.hid hrun
      have H4 := Lib.hid (And.intro hm4 (And.intro hb4 hc4))
      clear hm hb hcells hb3 hb23 hm3 hrun hm4 hg4 hb4 hc4
      go_wp2_with (at_mapUpdate; refine wpList_update_run rfl _ _ _ _ rfl _ _ _ rfl rfl rfl _ HR.out ?_)
      go_roundw
      case rel => exact ⟨k + 1, by omega, by go_num, H4.out.1, H4.out.2.1, H4.out.2.2⟩
      case measure => simp [intOf]; omega
    · obtain rfl : k = 5 := by omega
      have HM := Lib.hid (And.intro hm hb)
      clear hm hb hcells hm1 hbw1 HC
      go_wp2_with fail
      go_ret
      exact ⟨_, rfl, Nat.le_refl _, HM.out.1, HM.out.2⟩
end Go.Proofs.YtbbfajjbpalfeaaDoor
