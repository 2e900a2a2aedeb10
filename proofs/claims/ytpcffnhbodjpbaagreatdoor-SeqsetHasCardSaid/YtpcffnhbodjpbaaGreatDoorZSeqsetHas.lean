/- SeqsetHas: for every input the law returns true, and each argument reads afterwards as it read before; the package variables that the row lists are tied to the program's text by the card. -/
import Derived.Test.YtpcffnhbodjpbaaGreatDoorCards
import Derived.Test.YtpcffnhbodjpbaaGreatDoorTie
import Derived.Test.YtpcffnhbodjpbaaGreatDoorSq7
import Derived.Test.YtpcffnhbodjpbaaGreatDoorLaid
import Derived.Test.YtpcffnhbodjpbaaGreatDoorArgsU
import Derived.Deep.DeepHandedRow
import Derived.Deep.DeepWitnessRowRef
set_option linter.unusedVariables false
set_option linter.unusedSimpArgs false
namespace Go.Proofs.YtpcffnhbodjpbaaGreatDoor.seqsetHasLaw
open Go Go.ChangeShapes Go.WideShapes Go.ChangeAt Go.RowKit
open Go.ChangeMaps (open_string shut_string)

set_option maxRecDepth 100000 in
theorem laid_here (os : Os) (args : Array Value) : laidMet Tryz.prog Rows.seqsetHasRow.laid ((laidWorld os).forCall (fun _ _ => 0) ⟨#[], args, []⟩).memory :=
  laidMet_of_run' 8 (by kernel_rfl) (by kernel_rfl)
theorem std_here {W : World} (h : laidMetH Tryz.prog Rows.seqsetHasRow.laid W) : Std W := by
  rw [Go.MakeChecks.laidMetH_plain _ _ _ (by kernel_rfl)] at h
  exact ⟨tabIs_of h (t := 147) (e := 89) (c := 20) (.tail _ (.tail _ (show (_, Lib.tabData _ _) ∈ (("internal/strconv.uint64pow10", Lib.tabData .u64 Lib.pow10Tab) :: _ : List (String × DataW Unit)) from .head _))) gTab (by kernel_rfl) Tryz.underlying147 Tryz.underlying89 (by kernel_rfl) (by kernel_rfl), iface_of h (.tail _ (.tail _ (.tail _ (.tail _ (.tail _ (.head _)))))) gSyn (by kernel_rfl) Tryz.underlying77, iface_of h (.tail _ (.tail _ (.tail _ (.tail _ (.head _))))) gRng (by kernel_rfl) Tryz.underlying77⟩
theorem stdm_here {W : World} (hSh : W.ShapedOpen Tryz.prog) : StdM W := ⟨Go.Proofs.cell_of_shapedOpen_int (zero := #[.int .i64 0]) (t := 3) hSh (of_decide_eq_true (by kernel_rfl)) (by kernel_rfl) rfl (by kernel_rfl) (by kernel_rfl) Tryz.underlying3⟩

set_option maxRecDepth 100000 in
theorem contract (H : Type) (enc : TypeId × Value → H) (W : World) (base : Nat) (args : Array Value) (ds gs : List (DataW H)) (before : List MemPlace)
    (hval : ∀ (j : Nat) t v, Tryz.f6.params[j]? = some t → args[j]? = some v → Value.okWide Tryz.prog W .any base t v)
    (hW : DataW.Whole enc Tryz.prog Tryz.f6.params.toList Rows.seqsetHasSpec.vars false W args.toList ds gs before) (hL : laidMetH Tryz.prog Rows.seqsetHasRow.laid W) (hSh : W.ShapedOpen Tryz.prog) :
    Calls Tryz.prog 6 args W fun e W' => ∃ v, e = .returned v ∧ Rows.seqsetHasSpec.post enc Tryz.prog Tryz.f6 false true false false W args v W' := by
  have hS : Std W := std_here hL
  have hSM : StdM W := stdm_here hSh
  have hW' := hW
  obtain ⟨p, q, hA0, hV, rfl, hfz, hnd⟩ := hW
  have hA : DataW.TrodAll enc Tryz.prog W 0 (fun _ => true) true Tryz.f6.params.toList args.toList ds p := hA0
  rw [Tryz.params6] at hA hval
  obtain ⟨v0, vs0, d0, ds0, p0, q0, hargs, rfl, rfl, h0, r0⟩ := trodAll_cons hA
  obtain ⟨v1, vs1, d1, ds1, p1, q1, rfl, rfl, rfl, h1, r1⟩ := trodAll_cons r0
  obtain ⟨v2, vs2, d2, ds2, p2, q2, rfl, rfl, rfl, h2, r2⟩ := trodAll_cons r1
  obtain ⟨rfl, rfl, rfl⟩ := trodAll_nil r2
  obtain rfl : args = #[v0, v1, v2] := by cases args; simp_all
  obtain ⟨rfl, rfl⟩ := trodVars_none hV
  obtain ⟨top, rfl, rfl, rfl, wf_top⟩ := open_int Tryz.underlying30 (hval 0 30 v0 rfl rfl) h0
  have bd_top := bounds_u32 wf_top
  obtain ⟨ntop, rfl⟩ := Int.eq_ofNat_of_zero_le bd_top.1
  obtain ⟨n, rfl, rfl, rfl, wf_n⟩ := open_int Tryz.underlying30 (hval 1 30 v1 rfl rfl) h1
  have bd_n := bounds_u32 wf_n
  obtain ⟨nn, rfl⟩ := Int.eq_ofNat_of_zero_le bd_n.1
  obtain ⟨l, hl⟩ := rngs_arg (hval 2 22 v2 rfl rfl) h2
  clear hA0
  have hlt := fun x hx => hW'.lt x hx
  refine (seqsetHas_walk ntop nn l v2 W (by omega) (by omega) hl  hS hSM).mono fun e W' ⟨he, hg⟩ => ?_
  subst he
  exact ⟨_, rfl, post_of_below (pv := []) hW' (fun _ _ _ => trodAll_cons_mk (shut_bool Tryz.underlying4 _) trodAll_mk0) (fun sp hsp => trodAll_cons_mk (shut_int Tryz.underlying30 wf_top) (trodAll_cons_mk (shut_int Tryz.underlying30 wf_n) (trodAll_cons_mk (bytes_stays laidOut (by kernel_rfl) (of_decide_eq_true (by kernel_rfl)) h2 hg (fun x hx => hlt x (by simp [hx])) (fun x hx => hsp x (by simp [hx]))) trodAll_mk0))) (fun _ _ => rfl) rfl
    hg (ok_one (by kernel_rfl) rfl (okWide_bool_mk Tryz.underlying4 _))⟩

theorem reads (os : Os) {H : Type} (enc : TypeId × Value → H) : ∃ places, DataW.whole enc Tryz.prog ((laidWorld os).forCall (fun _ _ => 0) ⟨#[], #[.int .u32 0, .int .u32 0, .slice none 0 0], []⟩).memory Tryz.f6.params.toList Rows.seqsetHasSpec.vars false #[Value.int .u32 0, Value.int .u32 0, Value.slice none 0 0].toList 8 = some ([.lit (.int .u32 0), .lit (.int .u32 0), .nil], [], places) :=
  ⟨[], by kernel_rfl⟩

set_option maxRecDepth 100000 in
theorem lifted (os : Os) (started : os.Started) (H : Type) (enc : TypeId × Value → H) (F : Stop.Interp) :
    ReturnsInHanded {} Tryz.checked os 6 .any ((OpenSpec.ofChange Rows.seqsetHasSpec).preRow enc Tryz.prog Tryz.f6 Rows.seqsetHasRow.domain false Rows.seqsetHasRow.laid) (((OpenSpec.ofChange Rows.seqsetHasSpec).at F).post enc Tryz.prog Tryz.f6 false true false false) := by
  obtain ⟨places, hx⟩ := reads os enc
  refine returnsInHanded_of_row (C := Tryz.checked) (s := OpenSpec.ofChange Rows.seqsetHasSpec) own started (by kernel_rfl) Tryz.func6
    (witness_row_atRef (enc := enc) (C := Tryz.checked) false (laidWorld os) #[.int .u32 0, .int .u32 0, .slice none 0 0] rfl (by kernel_rfl) (by kernel_rfl) (by kernel_rfl)
      (OpenSpec.preRow_of_cond 8 hx (by kernel_rfl) (fun k hk => by cases hk) (by kernel_rfl) (laid_here os _))) ?_
  intro W base args ds gs before hval hW _ _ _ hL hSh _
  exact contract H enc W base args ds gs before hval hW hL hSh

theorem said : Rows.SeqsetHasSaid :=
  OpenClaim.holds_of_cond 6 Tryz.f6 rfl rfl rfl rfl rfl rfl rfl ⟨rfl, rfl, rfl, rfl, rfl⟩ rfl rfl rfl rfl rfl (by kernel_rfl) Tryz.func6 (by kernel_rfl)
    (of_decide_eq_true (by kernel_rfl)) (by unfold Func.isWrapper; first | (rw [if_pos (by decide +kernel)]; kernel_rfl) | (rw [if_neg (by decide +kernel)]; exact ⟨rfl, rfl⟩))
    (fun os started H enc _ F => by rw [OpenClaim.pre_eq_preRow]; exact lifted os started H enc F)

theorem plain (f : FuncId) (fn : Func) (hf : Tryz.pinned.checked.prog.funcNamed "cubbyhole/cubbyholelaw02.SeqsetHas" = some f) (hfn : Tryz.pinned.checked.prog.funcs[f]? = some fn) :
    true = Tryz.pinned.checked.prog.looks [] ∧ ∀ (j : Nat) t, fn.params[j]? = some t → Tryz.pinned.checked.prog.wantsStandIn t = false := by
  obtain rfl : f = 6 := Option.some.inj ((show Tryz.prog.funcNamed "cubbyhole/cubbyholelaw02.SeqsetHas" = some 6 by kernel_rfl).symm.trans hf) |>.symm
  obtain rfl : fn = Tryz.f6 := (Option.some.inj (Tryz.func6.symm.trans hfn)).symm
  refine ⟨by kernel_rfl, fun j t ht => ?_⟩
  rw [Tryz.params6] at ht
  have hm := Array.mem_of_getElem? ht
  have hm2 : t = 30 ∨ t = 30 ∨ t = 22 := by simpa using hm
  rcases hm2 with rfl | rfl | rfl
  · exact (show Tryz.prog.wantsStandIn 30 = false by kernel_rfl)
  · exact (show Tryz.prog.wantsStandIn 30 = false by kernel_rfl)
  · exact (show Tryz.prog.wantsStandIn 22 = false by kernel_rfl)

theorem card : Rows.SeqsetHasCardSaid :=
  Claim7.holds_tied_plain_at .later [] _ _ _ _ said (fun _ h => by cases h) (by kernel_rfl) (fun _ h => by cases h) seqsetHas_row_tie rfl ⟨rfl, rfl⟩ (by kernel_rfl) rfl plain (by kernel_rfl)
end Go.Proofs.YtpcffnhbodjpbaaGreatDoor.seqsetHasLaw
