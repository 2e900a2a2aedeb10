/- The law RespEnds at every response. -/
import Derived.Test.YtgdhakkfddmkjaaDoorLawResp3
import Derived.Test.YtgdhakkfddmkjaaDoorLawRespA
import Derived.Test.YtgdhakkfddmkjaaDoorEndSpec
set_option linter.unusedVariables false
set_option linter.unusedSimpArgs false
namespace Go.Proofs.YtgdhakkfddmkjaaDoor
open Go.RowKit

theorem respEnds_walk (r : Rsp) (P : Option Addr) (c : Nat) (w : World) (hi : RspIn w r P c) (hS : Std w) (hA : StdA w) :
    Calls Tryd.prog 7 #[.agg (rspA r P c)] w fun e w' => e = .returned (.bool true) ∧ Below w.heap.size w w' := by
  have hok : fewB [r] = true → RspOk r := fun h => hi.ok (few_one h)
  refine ends_core r.kind r.n r.status r.items r.flags r.uid r.size (ofL r.tag) (ofL r.text) P r.body.length c w (fewB [r]) (vldB r) (hasI r.items 16) (if fewB [r] = true then lineR r else []) ?_ rfl ?_ ?_ ?_ ?_ ?_ ?_
  · split
    · rename_i h
      have := line_len r (hok h)
      omega
    · simp
  · intro h hv hb
    rw [if_pos h]
    exact cl_ne (cl_line ((vldB_iff r).1 hv) hb)
  · exact fun W g h => few_blk r P c g W hi.max h
  · exact fun W hW => alive09_walk W (hS.below hW) (hA.below hW)
  · intro h hv W hW
    have := print_any r P c W (hok h) (hi.bys hW) hi.cap (hS.below hW) (hA.below hW)
    rw [hv] at this
    exact this
  · intro h hv W hW
    have := print_any r P c W (hok h) (hi.bys hW) hi.cap (hS.below hW) (hA.below hW)
    rw [hv] at this
    rw [if_pos h]
    exact this
  · exact fun h W hW => rvalid_any r P c W (hok h) (hi.bys hW)
end Go.Proofs.YtgdhakkfddmkjaaDoor
