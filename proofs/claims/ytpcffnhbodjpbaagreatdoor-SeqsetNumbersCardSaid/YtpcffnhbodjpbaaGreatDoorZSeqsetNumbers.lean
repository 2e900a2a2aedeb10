/- SeqsetNumbers: for every input the law returns true, and each argument reads afterwards as it read before; the package variables that the row lists are tied to the program's text by the card. -/
import Derived.Test.YtpcffnhbodjpbaaGreatDoorCards
import Derived.Test.YtpcffnhbodjpbaaGreatDoorTie
import Derived.Test.YtpcffnhbodjpbaaGreatDoorSq4
import Derived.Test.YtpcffnhbodjpbaaGreatDoorLaid
import Derived.Test.YtpcffnhbodjpbaaGreatDoorArgsU
import Derived.Deep.DeepHandedRow
import Derived.Deep.DeepWitnessRowRef
set_option linter.unusedVariables false
set_option linter.unusedSimpArgs false
namespace Go.Proofs.YtpcffnhbodjpbaaGreatDoor.seqsetNumbersLaw
open Go Go.ChangeShapes Go.WideShapes Go.ChangeAt Go.RowKit
open Go.ChangeMaps (open_string shut_string)

set_option maxRecDepth 100000 in
theorem laid_here (os : Os) (args : Array Value) : laidMet Tryz.prog Rows.seqsetNumbersRow.laid ((laidWorld os).forCall (fun _ _ => 0) ⟨#[], args, []⟩).memory :=
  laidMet_of_run' 8 (by kernel_rfl) (by kernel_rfl)
theorem std_here {W : World} (h : laidMetH Tryz.prog Rows.seqsetNumbersRow.laid W) : Std W := by
  rw [Go.MakeChecks.laidMetH_plain _ _ _ (by kernel_rfl)] at h
  exact ⟨tabIs_of h (t := 147) (e := 89) (c := 20) (.tail _ (.tail _ (show (_, Lib.tabData _ _) ∈ (("internal/strconv.uint64pow10", Lib.tabData .u64 Lib.pow10Tab) :: _ : List (String × DataW Unit)) from .head _))) gTab (by kernel_rfl) Tryz.underlying147 Tryz.underlying89 (by kernel_rfl) (by kernel_rfl), iface_of h (.tail _ (.tail _ (.tail _ (.tail _ (.tail _ (.head _)))))) gSyn (by kernel_rfl) Tryz.underlying77, iface_of h (.tail _ (.tail _ (.tail _ (.tail _ (.head _))))) gRng (by kernel_rfl) Tryz.underlying77⟩
theorem stdm_here {W : World} (hSh : W.ShapedOpen Tryz.prog) : StdM W := ⟨Go.Proofs.cell_of_shapedOpen_int (zero := #[.int .i64 0]) (t := 3) hSh (of_decide_eq_true (by kernel_rfl)) (by kernel_rfl) rfl (by kernel_rfl) (by kernel_rfl) Tryz.underlying3⟩

set_option maxRecDepth 100000 in
theorem contract (H : Type) (enc : TypeId × Value → H) (W : World) (base : Nat) (args : Array Value) (ds gs : List (DataW H)) (before : List MemPlace)
    (hval : ∀ (j : Nat) t v, Tryz.f4.params[j]? = some t → args[j]? = some v → Value.okWide Tryz.prog W .any base t v)
    (hW : DataW.Whole enc Tryz.prog Tryz.f4.params.toList Rows.seqsetNumbersSpec.vars false W args.toList ds gs before) (hL : laidMetH Tryz.prog Rows.seqsetNumbersRow.laid W) (hSh : W.ShapedOpen Tryz.prog) :
    Calls Tryz.prog 4 args W fun e W' => ∃ v, e = .returned v ∧ Rows.seqsetNumbersSpec.post enc Tryz.prog Tryz.f4 false true false false W args v W' := by
  have hS : Std W := std_here hL
  have hSM : StdM W := stdm_here hSh
  have hW' := hW
  obtain ⟨p, q, hA0, hV, rfl, hfz, hnd⟩ := hW
  have hA : DataW.TrodAll enc Tryz.prog W 0 (fun _ => true) true Tryz.f4.params.toList args.toList ds p := hA0
  rw [Tryz.params4] at hA hval
  obtain ⟨v0, vs0, d0, ds0, p0, q0, hargs, rfl, rfl, h0, r0⟩ := trodAll_cons hA
  obtain ⟨v1, vs1, d1, ds1, p1, q1, rfl, rfl, rfl, h1, r1⟩ := trodAll_cons r0
  obtain ⟨rfl, rfl, rfl⟩ := trodAll_nil r1
  obtain rfl : args = #[v0, v1] := by cases args; simp_all
  obtain ⟨rfl, rfl⟩ := trodVars_none hV
  obtain ⟨top, rfl, rfl, rfl, wf_top⟩ := open_int Tryz.underlying33 (hval 0 33 v0 rfl rfl) h0
  have bd_top := bounds_u16 wf_top
  obtain ⟨ntop, rfl⟩ := Int.eq_ofNat_of_zero_le bd_top.1
  obtain ⟨l, hl⟩ := rngs_arg (hval 1 22 v1 rfl rfl) h1
  clear hA0
  have hlt := fun x hx => hW'.lt x hx
  refine (seqsetNumbers_walk ntop l v1 W (by omega) hl  hS hSM).mono fun e W' ⟨he, hg⟩ => ?_
  subst he
  exact ⟨_, rfl, post_of_below (pv := []) hW' (fun _ _ _ => trodAll_cons_mk (shut_bool Tryz.underlying4 _) trodAll_mk0) (fun sp hsp => trodAll_cons_mk (shut_int Tryz.underlying33 wf_top) (trodAll_cons_mk (bytes_stays laidOut (by kernel_rfl) (of_decide_eq_true (by kernel_rfl)) h1 hg (fun x hx => hlt x (by simp [hx])) (fun x hx => hsp x (by simp [hx]))) trodAll_mk0)) (fun _ _ => rfl) rfl
    hg (ok_one (by kernel_rfl) rfl (okWide_bool_mk Tryz.underlying4 _))⟩

theorem reads (os : Os) {H : Type} (enc : TypeId × Value → H) : ∃ places, DataW.whole enc Tryz.prog ((laidWorld os).forCall (fun _ _ => 0) ⟨#[], #[.int .u16 0, .slice none 0 0], []⟩).memory Tryz.f4.params.toList Rows.seqsetNumbersSpec.vars false #[Value.int .u16 0, Value.slice none 0 0].toList 8 = some ([.lit (.int .u16 0), .nil], [], places) :=
  ⟨[], by kernel_rfl⟩

set_option maxRecDepth 100000 in
theorem lifted (os : Os) (started : os.Started) (H : Type) (enc : TypeId × Value → H) (F : Stop.Interp) :
    ReturnsInHanded {} Tryz.checked os 4 .any ((OpenSpec.ofChange Rows.seqsetNumbersSpec).preRow enc Tryz.prog Tryz.f4 Rows.seqsetNumbersRow.domain false Rows.seqsetNumbersRow.laid) (((OpenSpec.ofChange Rows.seqsetNumbersSpec).at F).post enc Tryz.prog Tryz.f4 false true false false) := by
  obtain ⟨places, hx⟩ := reads os enc
  refine returnsInHanded_of_row (C := Tryz.checked) (s := OpenSpec.ofChange Rows.seqsetNumbersSpec) own started (by kernel_rfl) Tryz.func4
    (witness_row_atRef (enc := enc) (C := Tryz.checked) false (laidWorld os) #[.int .u16 0, .slice none 0 0] rfl (by kernel_rfl) (by kernel_rfl) (by kernel_rfl)
      (OpenSpec.preRow_of_cond 8 hx (by kernel_rfl) (fun k hk => by cases hk) (by kernel_rfl) (laid_here os _))) ?_
  intro W base args ds gs before hval hW _ _ _ hL hSh _
  exact contract H enc W base args ds gs before hval hW hL hSh

theorem said : Rows.SeqsetNumbersSaid :=
  OpenClaim.holds_of_cond 4 Tryz.f4 rfl rfl rfl rfl rfl rfl rfl ⟨rfl, rfl, rfl, rfl, rfl⟩ rfl rfl rfl rfl rfl (by kernel_rfl) Tryz.func4 (by kernel_rfl)
    (of_decide_eq_true (by kernel_rfl)) (by unfold Func.isWrapper; first | (rw [if_pos (by decide +kernel)]; kernel_rfl) | (rw [if_neg (by decide +kernel)]; exact ⟨rfl, rfl⟩))
    (fun os started H enc _ F => by rw [OpenClaim.pre_eq_preRow]; exact lifted os started H enc F)

theorem plain (f : FuncId) (fn : Func) (hf : Tryz.pinned.checked.prog.funcNamed "cubbyhole/cubbyholelaw02.SeqsetNumbers" = some f) (hfn : Tryz.pinned.checked.prog.funcs[f]? = some fn) :
    true = Tryz.pinned.checked.prog.looks [] ∧ ∀ (j : Nat) t, fn.params[j]? = some t → Tryz.pinned.checked.prog.wantsStandIn t = false := by
  obtain rfl : f = 4 := Option.some.inj ((show Tryz.prog.funcNamed "cubbyhole/cubbyholelaw02.SeqsetNumbers" = some 4 by kernel_rfl).symm.trans hf) |>.symm
  obtain rfl : fn = Tryz.f4 := (Option.some.inj (Tryz.func4.symm.trans hfn)).symm
  refine ⟨by kernel_rfl, fun j t ht => ?_⟩
  rw [Tryz.params4] at ht
  have hm := Array.mem_of_getElem? ht
  have hm2 : t = 33 ∨ t = 22 := by simpa using hm
  rcases hm2 with rfl | rfl
  · exact (show Tryz.prog.wantsStandIn 33 = false by kernel_rfl)
  · exact (show Tryz.prog.wantsStandIn 22 = false by kernel_rfl)

theorem card : Rows.SeqsetNumbersCardSaid :=
  Claim7.holds_tied_plain_at .later [] _ _ _ _ said (fun _ h => by cases h) (by kernel_rfl) (fun _ h => by cases h) seqsetNumbers_row_tie rfl ⟨rfl, rfl⟩ (by kernel_rfl) rfl plain (by kernel_rfl)
end Go.Proofs.YtpcffnhbodjpbaaGreatDoor.seqsetNumbersLaw
