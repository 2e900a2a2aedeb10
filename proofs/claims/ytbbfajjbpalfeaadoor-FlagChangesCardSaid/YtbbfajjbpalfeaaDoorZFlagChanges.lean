/- FlagChanges: for every input the law returns true, and each argument reads afterwards as it read before; the package variables that the row lists are tied to the program's text by the card. -/
import Derived.Test.YtbbfajjbpalfeaaDoorCards
import Derived.Test.YtbbfajjbpalfeaaDoorTie
import Derived.Test.YtbbfajjbpalfeaaDoorLawFlag1
import Derived.Test.YtbbfajjbpalfeaaDoorLaid
import Derived.Deep.DeepHandedRow
import Derived.Deep.DeepWitnessRowRef
namespace Go.Proofs.YtbbfajjbpalfeaaDoor.flagChangesLaw
open Go Go.ChangeShapes Go.WideShapes Go.ChangeAt Go.RowKit
open Go.ChangeMaps (open_string shut_string)

set_option maxRecDepth 100000 in
theorem laid_here (os : Os) (args : Array Value) : laidMet Tryd.prog Rows.flagChangesRow.laid ((laidWorld os).forCall (fun _ _ => 0) ⟨#[], args, []⟩).memory :=
  laidMet_of_run' 8 (by kernel_rfl) (by kernel_rfl)
theorem ascData : (Rows.laid_strings_asciiSpace : DataW Unit) = Lib.tabData .u8 Lib.asciiSpaceTab := by kernel_rfl
theorem stda_here {W : World} (h : laidMetH Tryd.prog Rows.flagChangesRow.laid W) (hSh : W.ShapedOpen Tryd.prog) : StdA W := by
  rw [Go.MakeChecks.laidMetH_plain _ _ _ (by kernel_rfl)] at h
  exact ⟨tabIs_of h (t := 51) (e := 5) (c := 256) (by rw [← ascData]; exact (.tail _ (.tail _ (.head _)))) gAsc (by kernel_rfl) Tryd.underlying51 Tryd.underlying5 (by kernel_rfl) (by kernel_rfl), Tryd.laysM146.s1_3 W hSh⟩

theorem contract (H : Type) (enc : TypeId × Value → H) (W : World) (base : Nat) (args : Array Value) (ds gs : List (DataW H)) (before : List MemPlace)
    (hval : ∀ (j : Nat) t v, Tryd.f7.params[j]? = some t → args[j]? = some v → Value.okWide Tryd.prog W .any base t v)
    (hW : DataW.Whole enc Tryd.prog Tryd.f7.params.toList Rows.flagChangesSpec.vars false W args.toList ds gs before) (hL : laidMetH Tryd.prog Rows.flagChangesRow.laid W) (hSh : W.ShapedOpen Tryd.prog) :
    Calls Tryd.prog 7 args W fun e W' => ∃ v, e = .returned v ∧ Rows.flagChangesSpec.post enc Tryd.prog Tryd.f7 false true false false W args v W' := by
  have hS : StdA W := stda_here hL hSh
  have hW' := hW
  obtain ⟨p, q, hA0, hV, rfl, hfz, hnd⟩ := hW
  have hA : DataW.TrodAll enc Tryd.prog W 0 (fun _ => true) true Tryd.f7.params.toList args.toList ds p := hA0
  rw [Tryd.params7] at hA hval
  obtain ⟨v0, vs0, d0, ds0, p0, q0, hargs, rfl, rfl, h0, r0⟩ := trodAll_cons hA
  obtain ⟨v1, vs1, d1, ds1, p1, q1, rfl, rfl, rfl, h1, r1⟩ := trodAll_cons r0
  obtain ⟨v2, vs2, d2, ds2, p2, q2, rfl, rfl, rfl, h2, r2⟩ := trodAll_cons r1
  obtain ⟨rfl, rfl, rfl⟩ := trodAll_nil r2
  obtain rfl : args = #[v0, v1, v2] := by cases args; simp_all
  obtain ⟨rfl, rfl⟩ := trodVars_none hV
  obtain ⟨o, rfl, rfl, rfl, wf_o⟩ := open_int Tryd.underlying5 (hval 0 5 v0 rfl rfl) h0
  have bd_o := bounds_u8 wf_o
  obtain ⟨no, rfl⟩ := Int.eq_ofNat_of_zero_le bd_o.1
  obtain ⟨mode, rfl, rfl, rfl, wf_mode⟩ := open_int Tryd.underlying3 (hval 1 3 v1 rfl rfl) h1
  have bd_mode := bounds_i64 wf_mode
  obtain ⟨f, rfl, rfl, rfl, wf_f⟩ := open_int Tryd.underlying5 (hval 2 5 v2 rfl rfl) h2
  have bd_f := bounds_u8 wf_f
  obtain ⟨nf, rfl⟩ := Int.eq_ofNat_of_zero_le bd_f.1
  clear hA0
  simp only [List.append_nil] at hW'
  refine (flagChanges_walk no mode nf W (by omega)  (by omega) hS).mono fun e W' ⟨he, hg⟩ => ?_
  subst he
  exact ⟨_, rfl, post_of_below (pa := []) (pv := []) hW' (fun _ _ _ => trodAll_cons_mk (shut_bool Tryd.underlying4 _) trodAll_mk0) (fun sp hsp => trodAll_cons_mk (shut_int Tryd.underlying5 wf_o) (trodAll_cons_mk (shut_int Tryd.underlying3 wf_mode) (trodAll_cons_mk (shut_int Tryd.underlying5 wf_f) trodAll_mk0))) (fun _ _ => rfl) rfl
    hg (ok_one (by kernel_rfl) rfl (okWide_bool_mk Tryd.underlying4 _))⟩

theorem reads (os : Os) {H : Type} (enc : TypeId × Value → H) : ∃ places, DataW.whole enc Tryd.prog ((laidWorld os).forCall (fun _ _ => 0) ⟨#[], #[.int .u8 0, .int .i64 0, .int .u8 0], []⟩).memory Tryd.f7.params.toList Rows.flagChangesSpec.vars false #[Value.int .u8 0, Value.int .i64 0, Value.int .u8 0].toList 8 = some ([.lit (.int .u8 0), .lit (.int .i64 0), .lit (.int .u8 0)], [], places) :=
  ⟨[], by kernel_rfl⟩

set_option maxRecDepth 100000 in
theorem lifted (os : Os) (started : os.Started) (H : Type) (enc : TypeId × Value → H) (F : Stop.Interp) :
    ReturnsInHanded {} Tryd.checked os 7 .any ((OpenSpec.ofChange Rows.flagChangesSpec).preRow enc Tryd.prog Tryd.f7 Rows.flagChangesRow.domain false Rows.flagChangesRow.laid) (((OpenSpec.ofChange Rows.flagChangesSpec).at F).post enc Tryd.prog Tryd.f7 false true false false) := by
  obtain ⟨places, hx⟩ := reads os enc
  refine returnsInHanded_of_row (C := Tryd.checked) (s := OpenSpec.ofChange Rows.flagChangesSpec) own started (by kernel_rfl) Tryd.func7
    (witness_row_atRef (enc := enc) (C := Tryd.checked) false (laidWorld os) #[.int .u8 0, .int .i64 0, .int .u8 0] rfl (by kernel_rfl) (by kernel_rfl) (by kernel_rfl)
      (OpenSpec.preRow_of_cond 8 hx (by kernel_rfl) (fun k hk => by cases hk) (by kernel_rfl) (laid_here os _))) ?_
  intro W base args ds gs before hval hW _ _ _ hL hSh _
  exact contract H enc W base args ds gs before hval hW hL hSh

theorem said : Rows.FlagChangesSaid :=
  OpenClaim.holds_of_cond 7 Tryd.f7 rfl rfl rfl rfl rfl rfl rfl ⟨rfl, rfl, rfl, rfl, rfl⟩ rfl rfl rfl rfl rfl (by kernel_rfl) Tryd.func7 (by kernel_rfl)
    (of_decide_eq_true (by kernel_rfl)) (by unfold Func.isWrapper; first | (rw [if_pos (by decide +kernel)]; kernel_rfl) | (rw [if_neg (by decide +kernel)]; exact ⟨rfl, rfl⟩))
    (fun os started H enc _ F => by rw [OpenClaim.pre_eq_preRow]; exact lifted os started H enc F)

theorem plain (f : FuncId) (fn : Func) (hf : Tryd.pinned.checked.prog.funcNamed "cubbyhole/cubbyholelaw03.FlagChanges" = some f) (hfn : Tryd.pinned.checked.prog.funcs[f]? = some fn) :
    false = Tryd.pinned.checked.prog.looks [] ∧ ∀ (j : Nat) t, fn.params[j]? = some t → Tryd.pinned.checked.prog.wantsStandIn t = false := by
  obtain rfl : f = 7 := Option.some.inj ((show Tryd.prog.funcNamed "cubbyhole/cubbyholelaw03.FlagChanges" = some 7 by kernel_rfl).symm.trans hf) |>.symm
  obtain rfl : fn = Tryd.f7 := (Option.some.inj (Tryd.func7.symm.trans hfn)).symm
  refine ⟨by kernel_rfl, fun j t ht => ?_⟩
  rw [Tryd.params7] at ht
  have hm := Array.mem_of_getElem? ht
  have hm2 : t = 5 ∨ t = 3 ∨ t = 5 := by simpa using hm
  rcases hm2 with rfl | rfl | rfl
  · exact (show Tryd.prog.wantsStandIn 5 = false by kernel_rfl)
  · exact (show Tryd.prog.wantsStandIn 3 = false by kernel_rfl)
  · exact (show Tryd.prog.wantsStandIn 5 = false by kernel_rfl)

theorem card : Rows.FlagChangesCardSaid :=
  Claim7.holds_tied_plain_at .later [] _ _ _ _ said (fun _ h => by cases h) (by kernel_rfl) (fun _ h => by cases h) flagChanges_row_tie rfl ⟨rfl, rfl⟩ (by kernel_rfl) rfl plain (by kernel_rfl)
end Go.Proofs.YtbbfajjbpalfeaaDoor.flagChangesLaw
