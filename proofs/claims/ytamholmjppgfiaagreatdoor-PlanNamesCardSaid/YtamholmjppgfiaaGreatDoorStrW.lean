/- resolve.Stripes. -/
import Derived.Test.YtamholmjppgfiaaGreatDoorSplW
import Derived.Test.YtamholmjppgfiaaGreatDoorShelfD
import Derived.Test.YtamholmjppgfiaaGreatDoorUniq
set_option linter.unusedVariables false
set_option linter.unusedSimpArgs false
namespace Go.Proofs.YtamholmjppgfiaaGreatDoor
open Go Go.RowKit Go.Maps Go.Sort Go.Shelf

/-- The stripes of some identifiers, ascending. -/
def stripeL (n : Nat) (us : List Int) : List Int := cmpU (us.map fun u => u % (n : Int))
theorem stripeL_spec (n : Nat) (us : List Int) : asc (stripeL n us) ∧ ∀ x, x ∈ stripeL n us ↔ ∃ u ∈ us, u % (n : Int) = x := by
  obtain ⟨h1, h2⟩ := cmpU_spec (us.map fun u => u % (n : Int))
  refine ⟨h1, fun x => ?_⟩
  unfold stripeL
  rw [h2, List.mem_map]
theorem asc_nodup {l : List Int} (h : asc l) : l.Nodup := List.Pairwise.imp (fun hab => by omega) h
theorem sorts_wide (m : Nat) : AnyZI.SortsIn Tryz.prog Tryz.lSorted_ren Fence.wide m :=
  ⟨fun blk off cap ss W hH hblk hsz => callsIn_wide.2 (AnyM.slices_Sort_int Tryz.lSort blk off cap ss W hH hblk hsz),
   fun p cap W => callsIn_wide.2 (AnyM.slices_Sort_int_none Tryz.lSort p cap W)⟩
set_option maxHeartbeats 1600000 in
theorem stripes_any (n : Nat) (hn0 : 0 < n) (hn : n ≤ 1048576) (us : List Int) (v : Value) (w : World) (hU : U32 w w.heap.size v us) (hl : us.length ≤ 1048576) (hu : ∀ u ∈ us, 0 ≤ u ∧ u < 4294967296) :
    Calls Tryz.prog 53 #[.int .i64 n, v] w fun e w' => ∃ v', e = .returned v' ∧ Buf w' w.heap.size 1 v' (stripeL n us).length ((stripeL n us).map (Value.int .i64)) ∧ Below w.heap.size w w' := by
  have HS := Lib.hid (callsIn_wide (n := 5).2 (split_any n hn0 hn us v w hU hl hu))
  have HL := Lib.hid hl
  clear hU hl hu
  refine (callsIn_wide (n := 6)).1 ?_
  have cK : ∀ mb W, CallsIn Fence.wide 5 Tryz.prog 65 #[.map mb] W fun e w' => e = .returned (.func (.func 85) #[] #[.pointer (some ⟨W.heap.size, 0, none⟩)]) ∧ w' = W.alloc (.cells #[.map mb] 102) := fun mb W => AnyZI.keys_in Tryz.lKeys Fence.wide 5 trivial rfl mb W
  refine callsIn_of_wp Tryz.func53 rfl trivial ?_ rfl
  simp only [Tryz.ntmps53, List.size_toArray, List.length_cons, List.length_nil, Nat.reduceAdd, Nat.reduceSub, Array.replicate_succ, Array.replicate_zero, List.push_toArray, List.append_toArray, List.nil_append, List.cons_append]
  gi_wp2
  refine ⟨trivial, ?_⟩
  refine HS.out.mono ?_
  rintro e w1 ⟨mb, rfl, D0, f, g, hown, hbel, hmb, -, -, -, -, -, hhas⟩
  rw [List.take_length] at hhas
  have hbl := hown.lt
  have hsz := hown.size_le
  obtain ⟨hasc, hmem⟩ := stripeL_spec n us
  have hperm0 : (stripeL n us).Perm (intKeys D0) := CollectedI.perm (left := fun _ => false) ⟨asc_nodup hasc, fun x => by rw [hmem, hhas]; simp⟩ hown (int_keyed Tryz.underlying3) Tryz.underlying3 (fun _ => rfl)
  have hseq : SeqGives Fence.wide 2 Tryz.prog 85 #[.pointer (some ⟨w1.heap.size, 0, none⟩)] encZ (fun ss => ss.Perm (intKeys D0)) (Maps.size D0) (w1.alloc (.cells #[.map (some mb)] 102)) :=
    AnyZI.keys_gives (ρ := Tryz.lKeys_ren) { Tryz.lKeys with } Fence.wide _ trivial rfl (by omega) w1.heap.size mb us.length D0 _ (by simp) (by simp) (hown.alloc _)
  have cS := AnyZI.sorted_in Tryz.lSorted Fence.wide 5 trivial trivial trivial trivial rfl (by omega) (sorts_wide _) (enters_of Tryz.func84 (by kernel_rfl) rfl) 85 #[.pointer (some ⟨w1.heap.size, 0, none⟩)] trivial (enters_of Tryz.func85 (by kernel_rfl) rfl) _ _ (by have := HL.out; unfold maxLen; omega) (by have := HL.out; omega) _ hseq
  change CallsIn _ _ Tryz.prog 64 _ _ _ at cS
  have HP := Lib.hid (And.intro hasc (And.intro hperm0 hbel))
  have HC := Lib.hid cS
  clear hown hbel hmb hhas hbl hsz hasc hmem hperm0 hseq cS
  gi_wp2
  refine ⟨trivial, ?_⟩
  refine (cK _ _).mono ?_
  rintro e w2 ⟨rfl, rfl⟩
  gi_wp2
  refine ⟨trivial, ?_⟩
  refine HC.out.mono ?_
  rintro e w3 ⟨v3, ss, rfl, hS, hrow, hnil, hb⟩
  have H3 := Lib.hid (And.intro hS (And.intro hrow hb))
  clear hS hrow hnil hb
  gi_wp2
  go_ret
  obtain ⟨hS, hrow, hb⟩ := H3.out
  obtain ⟨hasc, hperm, hbel⟩ := HP.out
  have e1 : ss.mergeSort (fun x y => decide (x ≤ y)) = stripeL n us := by
    have h1 := mergeSort_of_perm_i (hS.trans hperm.symm)
    have h2 : (stripeL n us).mergeSort leI = stripeL n us := List.mergeSort_of_pairwise (List.Pairwise.imp (fun hab => by simp only [leI, decide_eq_true_eq]; omega) hasc)
    exact h1.trans h2
  have hlen : ss.length = (stripeL n us).length := (hS.trans hperm.symm).length_eq
  rw [e1, hlen] at hrow
  refine ⟨v3, rfl, (Buf.of_own hrow).mono (by rw [World.size_alloc]; have := hbel.size; omega), ?_⟩
  have hb1 : Below w.heap.size w (w1.alloc (.cells #[.map (some mb)] 102)) := hbel.alloc hbel.size _
  exact hb1.trans (hb.mono hb1.size)
end Go.Proofs.YtamholmjppgfiaaGreatDoor
