/- The walks of the laws FlagNames and FlagOrder. -/
import Derived.Test.YtbbfajjbpalfeaaDoorLawFlag1
namespace Go.Proofs.YtbbfajjbpalfeaaDoor
open Go.RowKit

def orTo (f k : Nat) : Nat := ((eachL f).take k).foldl (· ||| ·) 0
theorem names_facts (f k : Nat) (hf : f < 256) (hk : k < (eachL f).length) : (eachL f).getD k 0 < 256 ∧ fname ((eachL f).getD k 0) ≠ [] ∧ orTo f k < (eachL f).getD k 0 ∧
    (bits .and .u8 (f : Int) ((eachL f).getD k 0 : Nat) == 0) = false ∧ bits .or .u8 (orTo f k : Int) ((eachL f).getD k 0 : Nat) = (orTo f (k + 1) : Int) := by
  have h : ∀ f : Fin 256, ∀ k : Fin 5, k.val < (eachL f.val).length → (eachL f.val).getD k.val 0 < 256 ∧ fname ((eachL f.val).getD k.val 0) ≠ [] ∧ orTo f.val k.val < (eachL f.val).getD k.val 0 ∧
    (bits .and .u8 (f.val : Int) ((eachL f.val).getD k.val 0 : Nat) == 0) = false ∧ bits .or .u8 (orTo f.val k.val : Int) ((eachL f.val).getD k.val 0 : Nat) = (orTo f.val (k.val + 1) : Int) := by decide +kernel
  have h5 : (eachL f).length ≤ 5 := eachTo_le f 5
  exact h ⟨f, hf⟩ ⟨k, by omega⟩ hk
theorem orTo_all (f : Nat) (hf : f < 256) : orTo f (eachL f).length = f % 32 := by
  have h : ∀ f : Fin 256, orTo f.val (eachL f.val).length = f.val % 32 := by decide +kernel
  exact h ⟨f, hf⟩
theorem getD_get {α : Type} {l : List α} {k : Nat} {d : α} (h : k < l.length) : l.getD k d = l[k] := by
  rw [List.getD_eq_getElem?_getD, List.getElem?_eq_getElem h]; rfl
/-- What Each hands back, cell by cell. -/
theorem each_cells (f : Nat) (hf : f < 256) (w : World) :
    Calls Tryd.prog 9 #[.int .u8 f] w fun e w' => ∃ A cap, e = .returned (.slice A (eachL f).length cap) ∧ Below w.heap.size w w' ∧
      ∀ k, k < (eachL f).length → ∃ g off, A = some ⟨g, off, none⟩ ∧ w'.cell? ⟨g, off + k, none⟩ = some (.int .u8 ((eachL f).getD k 0 : Nat)) := by
  refine (each_any f hf w).mono ?_
  rintro e w1 ⟨v, rfl, hbuf, hb⟩
  obtain ⟨A, cap, rfl, -⟩ := hbuf.src (flV_one _)
  refine ⟨A, cap, rfl, hb, fun k hk => ?_⟩
  obtain ⟨g, off, c2, e, _, _, _, hc⟩ := hbuf.at (by omega)
  injection e with e1 e2 e3
  exact ⟨g, off, e1, hc k _ (by simp [flV, hk])⟩

set_option maxRecDepth 100000 in
set_option maxHeartbeats 1600000 in
theorem flagNames_walk (f : Nat) (w : World) (hf : f < 256) (hS : StdA w) : Calls Tryd.prog 3 #[.int .u8 f] w fun e w' => e = .returned (.bool true) ∧ Below w.heap.size w w' := by
  have HE := Lib.hid (each_cells f hf w)
  have HS := Lib.hid hS
  have HF := Lib.hid (fun k hk => names_facts f k hf hk)
  have HO := Lib.hid (orTo_all f hf)
  have hl5 : (eachL f).length ≤ 5 := eachTo_le f 5
  have HA := Lib.hid (fun w1 (hb : Below w.heap.size w w1) => alive03_walk w1 (hS.below hb))
  clear hS
  generalize eachL f = L at *
  go_enter Tryd.func3, Tryd.ntmps3
  go_wp2_with fail
  refine HE.out.mono ?_
  rintro e w1 ⟨A, cap, rfl, hb, hc⟩
  have HB := Lib.hid hb
  have HC := Lib.hid hc
  clear hb hc HE
  go_wp2_with fail
  go_loopw [3, 9] (fun al i wr => ∃ k : Nat, k ≤ L.length ∧ i = .int .i64 k ∧ al = .int .u8 (orTo f k : Nat) ∧ Below w1.heap.size w1 wr) (fun _ i _ => L.length - (intOf i).toNat)
  case atStart => exact ⟨0, Nat.zero_le _, rfl, rfl, Below.refl _ _⟩
  case round =>
    obtain ⟨k, hk, rfl, rfl, hbb⟩ := hrel
    by_cases hlt : k < L.length
    · obtain ⟨g, off, rfl, hck⟩ := HC.out k hlt
      have hck2 := cell_stays hck hbb
      obtain ⟨f1, f2, f3, f4, f5⟩ := HF.out k hlt
      have HN := Lib.hid (name_any (L.getD k 0) f1 wr (HS.out.below (HB.out.trans (hbb.mono HB.out.size))))
      have HBB := Lib.hid hbb
      generalize L.getD k 0 = x at *
      generalize hnm : fname x = nm at HN f2
      generalize orTo f k = al at *
      have e1 : ¬ (ofL nm).toList = [] := by rw [ByteArray.toList_eq, ofL_data]; exact f2
      have e2 : (ofL nm).toList.isEmpty = false := by rw [ByteArray.toList_eq, ofL_data]; cases nm with | nil => exact absurd rfl f2 | cons _ _ => rfl
      have e3 : nm.isEmpty = false := by cases nm with | nil => exact absurd rfl f2 | cons _ _ => rfl
      clear hck hbb hnm f2
      go_wp2_with fail
      refine HN.out.mono ?_
      rintro e w2 ⟨rfl, hb2⟩
      have HB2 := Lib.hid (HBB.out.trans (hb2.mono HBB.out.size))
      clear hb2
      go_wp2_with fail
      go_roundw
      case rel => exact ⟨k + 1, by omega, by go_num, rfl, HB2.out⟩
      case measure => simp [intOf]; omega
    · obtain rfl : k = L.length := by omega
      have HBB := Lib.hid (HB.out.trans (hbb.mono HB.out.size))
      rw [HO.out]
      have h31 := and31 f hf
      have HN := Lib.hid (fun w1 (hb : Below w.heap.size w w1) => name_any f hf w1 (HS.out.below hb))
      have HR := Lib.hid (fun w => rName_any f hf w)
      generalize f % 32 = y at *
      generalize fname f = nm at *
      clear hbb
      go_wp2_with fail
      refine (HA.out _ HBB.out).mono ?_
      rintro e w2 ⟨rfl, hb2⟩
      have HB2 := Lib.hid (HBB.out.trans (hb2.mono HBB.out.size))
      clear hb2
      go_wp2_with fail
      refine (HN.out _ HB2.out).mono ?_
      rintro e w3 ⟨rfl, hb3⟩
      have HB3 := Lib.hid (HB2.out.trans (hb3.mono HB2.out.size))
      clear hb3
      go_wp2_with fail
      refine (HR.out _).mono ?_
      rintro e w4 ⟨rfl, rfl⟩
      go_wp2_with fail
      go_ret
      exact ⟨rfl, HB3.out⟩

/-! ### FlagOrder -/
/-- The words that are written in the first i rounds. -/
def ordW (L : List Nat) (k i : Nat) : List (List UInt8) := (List.range i).flatMap fun j => [fname (L.getD ((j + k) % L.length) 0), fname (L.getD ((j + k) % L.length) 0)]
theorem ordW_next (L : List Nat) (k i : Nat) : ordW L k (i + 1) = ordW L k i ++ [fname (L.getD ((i + k) % L.length) 0), fname (L.getD ((i + k) % L.length) 0)] := by
  unfold ordW; rw [List.range_succ, List.flatMap_append]; simp
theorem ordW_mod (L : List Nat) (k i : Nat) : ordW L k i = ordW L (k % L.length) i := by
  unfold ordW
  congr 1
  funext j
  rw [Nat.add_mod_mod]
theorem ordW_parse (f k : Nat) (hf : f < 256) : parseF (40 :: (joinF (ordW (eachL f) k (eachL f).length) ++ [41])) = some (f % 32) := by
  rw [ordW_mod]
  have h : ∀ f : Fin 32, ∀ q : Fin 5, parseF (40 :: (joinF (ordW (eachL f.val) q.val (eachL f.val).length) ++ [41])) = some f.val := by decide +kernel
  have h2 : ∀ f : Fin 256, eachL f.val = eachL (f.val % 32) := by decide +kernel
  have e := h2 ⟨f, hf⟩
  simp only at e
  have h5 : (eachL f).length ≤ 5 := eachTo_le f 5
  by_cases h0 : (eachL f).length = 0
  · rw [h0]
    have : ∀ f : Fin 32, (eachL f.val).length = 0 → f.val = 0 := by decide +kernel
    rw [e] at h0
    have := this ⟨f % 32, by omega⟩ h0
    simp only at this
    rw [this]; rfl
  · have hq : k % (eachL f).length < 5 := by have := Nat.mod_lt k (show (eachL f).length > 0 by omega); omega
    have := h ⟨f % 32, by omega⟩ ⟨k % (eachL f).length, hq⟩
    simp only at this
    rw [← e] at this
    exact this
theorem ordW_len (L : List Nat) (k i : Nat) : (joinF (ordW L k i)).length ≤ i * 20 := by
  have h := joinF_len (ordW L k i) 9 (fun x hx => by
    unfold ordW at hx
    obtain ⟨j, _, hx⟩ := List.mem_flatMap.1 hx
    rcases List.mem_cons.1 hx with rfl | hx
    · exact fname_len _
    · obtain rfl := List.mem_singleton.1 hx; exact fname_len _)
  have h2 : (ordW L k i).length = i * 2 := by
    unfold ordW
    rw [List.length_flatMap]
    clear h
    induction i with
    | zero => rfl
    | succ i ih => rw [List.range_succ, List.map_append, List.sum_append_nat, ih]; simp; omega
  omega
theorem ordW_ne (L : List Nat) (k i : Nat) (h : 0 < i) : ordW L k i ≠ [] := by
  unfold ordW
  obtain ⟨j, rfl⟩ : ∃ j, i = j + 1 := ⟨i - 1, by omega⟩
  rw [List.range_succ, List.flatMap_append]
  simp
theorem joinF_two (a b : List UInt8) (W : List (List UInt8)) (h : W ≠ []) : joinF (W ++ [a, b]) = joinF W ++ 32 :: (a ++ 32 :: b) := by
  rw [show W ++ [a, b] = (W ++ [a]) ++ [b] by simp, joinF_snoc _ _ (by simp), joinF_snoc _ _ h]; simp

set_option maxRecDepth 100000 in
set_option maxHeartbeats 1600000 in
theorem flagOrder_walk (f q : Nat) (w : World) (hf : f < 256) (hq : q < 256) (hS : StdA w) : Calls Tryd.prog 6 #[.int .u8 f, .int .u8 q] w fun e w' => e = .returned (.bool true) ∧ Below w.heap.size w w' := by
  have HE := Lib.hid (each_cells f hf w)
  have hl5 : (eachL f).length ≤ 5 := eachTo_le f 5
  have HP := Lib.hid (fun w1 (hb : Below w.heap.size w w1) => parse_any (ofL (40 :: (joinF (ordW (eachL f) q (eachL f).length) ++ [41]))) w1 (hS.below hb) (by
    rw [ofL_size, List.length_cons, List.length_append, List.length_singleton]
    have := ordW_len (eachL f) q (eachL f).length
    omega))
  rw [ofL_data, ordW_parse f q hf, parV_some] at HP
  have HX := Lib.hid (eachL_lt f hf).2
  have h31 := and31 f hf
  have HA := Lib.hid (fun w1 (hb : Below w.heap.size w w1) => alive03_walk w1 (hS.below hb))
  clear hS
  generalize eachL f = L at *
  obtain ⟨n, hn⟩ : ∃ n, L.length = n := ⟨_, rfl⟩
  have HN := Lib.hid hn
  rw [hn] at HE HP hl5
  clear hn
  generalize f % 32 = y at *
  go_enter Tryd.func6, Tryd.ntmps6
  go_wp2_with fail
  refine HE.out.mono ?_
  rintro e w1 ⟨A, cap, rfl, hb, hc⟩
  have HB := Lib.hid hb
  have HC := Lib.hid hc
  clear hb hc HE
  go_wp2_with fail
  go_loop [6, 15] (fun s i => ∃ k : Nat, k ≤ n ∧ i = .int .i64 k ∧ s = .string (ofL (40 :: joinF (ordW L q k)))) (fun _ i => n - (intOf i).toNat)
  case atStart => exact ⟨0, Nat.zero_le _, rfl, rfl⟩
  case round =>
    obtain ⟨k, hk, rfl, rfl⟩ := hrel
    have hjl := ordW_len L q k
    by_cases hlt : k < n
    · have hm : (k + q) % n < n := Nat.mod_lt _ (by omega)
      obtain ⟨g, off, rfl, hck⟩ := HC.out _ hm
      have hnx := ordW_next L q k
      rw [HN.out] at hnx
      have hx : L.getD ((k + q) % n) 0 < 256 := by
        rw [getD_get (by rw [HN.out]; exact hm)]
        exact HX.out _ (List.getElem_mem _)
      have HR := Lib.hid (fun w => rName_any (L.getD ((k + q) % n) 0) hx w)
      have hnl := fname_len (L.getD ((k + q) % n) 0)
      generalize L.getD ((k + q) % n) 0 = x at *
      generalize fname x = nm at *
      have hns : (ofL nm).size ≤ 9 := by rw [ofL_size]; exact hnl
      have hnp : 0 < n := by omega
      have hm1 : ((k : Int) + q) % n < n := Int.emod_lt_of_pos _ (by omega)
      have hm0 : 0 ≤ ((k : Int) + q) % n := Int.emod_nonneg _ (by omega)
      have has : (ofL (40 :: joinF (ordW L q k))).size ≤ 101 := by rw [ofL_size, List.length_cons]; omega
      by_cases hk0 : k = 0
      · have R : Hid (ofL (40 :: joinF (ordW L q (k + 1))) = ofL (40 :: joinF (ordW L q k)) ++ (ofL nm ++ ofL [32] ++ ofL nm)) := Lib.hid (by
          rw [hnx, hk0, str_add, str_add, str_add]; simp [ordW, joinF])
        have hk1 : ¬ 0 < k := by omega
        clear hk0 hnx hjl
        generalize ofL (40 :: joinF (ordW L q k)) = acc at *
        go_wp2_with fail
        refine (HR.out _).mono ?_
        rintro e w2 ⟨rfl, rfl⟩
        go_wp2_with fail
        refine (HR.out _).mono ?_
        rintro e w2 ⟨rfl, rfl⟩
        go_wp2_with fail
        go_round
        case rel => exact ⟨k + 1, by omega, by go_num, by rw [R.out]; rfl⟩
        case measure => simp [intOf]; omega
      · have R : Hid (ofL (40 :: joinF (ordW L q (k + 1))) = ofL (40 :: joinF (ordW L q k)) ++ ofL [32] ++ (ofL nm ++ ofL [32] ++ ofL nm)) := Lib.hid (by
          rw [hnx, joinF_two _ _ _ (ordW_ne L q k (by omega)), str_add, str_add, str_add, str_add]; simp)
        have hk1 : 0 < k := by omega
        clear hk0 hnx hjl
        generalize ofL (40 :: joinF (ordW L q k)) = acc at *
        go_wp2_with fail
        refine (HR.out _).mono ?_
        rintro e w2 ⟨rfl, rfl⟩
        go_wp2_with fail
        refine (HR.out _).mono ?_
        rintro e w2 ⟨rfl, rfl⟩
        go_wp2_with fail
        go_round
        case rel => exact ⟨k + 1, by omega, by go_num, by rw [R.out]; rfl⟩
        case measure => simp [intOf]; omega
    · obtain rfl : k = n := by omega
      have R : Hid (ofL (40 :: (joinF (ordW L q k) ++ [41])) = ofL (40 :: joinF (ordW L q k)) ++ ofL [41]) := Lib.hid (by rw [str_add]; simp)
      rw [R.out] at HP
      have has : (ofL (40 :: joinF (ordW L q k))).size ≤ 101 := by rw [ofL_size, List.length_cons]; omega
      generalize ofL (40 :: joinF (ordW L q k)) = acc at *
      rw [show ofL [41] = ⟨#[41]⟩ from rfl] at HP
      clear R hjl
      go_wp2_with fail
      refine (HP.out _ HB.out).mono ?_
      rintro e w2 ⟨rfl, hb2⟩
      have HB2 := Lib.hid (HB.out.trans (hb2.mono HB.out.size))
      clear hb2
      go_wp2_with fail
      refine (HA.out _ HB2.out).mono ?_
      rintro e w3 ⟨rfl, hb3⟩
      have HB3 := Lib.hid (HB2.out.trans (hb3.mono HB2.out.size))
      clear hb3
      go_wp2_with fail
      go_ret
      exact ⟨rfl, HB3.out⟩
end Go.Proofs.YtbbfajjbpalfeaaDoor
