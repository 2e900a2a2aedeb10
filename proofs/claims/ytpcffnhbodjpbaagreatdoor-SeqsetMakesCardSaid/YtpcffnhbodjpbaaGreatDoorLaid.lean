/- What the statements' rows list, as the walks take it; and a world that fits, for the witness. -/
import Derived.Test.YtpcffnhbodjpbaaGreatDoorRows
import Derived.Test.YtpcffnhbodjpbaaGreatDoorG
import Derived.Lib.LaidTab
import Derived.LaidLaws
import Derived.MakeChecks
set_option linter.unusedVariables false
set_option linter.unusedSimpArgs false
namespace Go.Proofs.YtpcffnhbodjpbaaGreatDoor
open Go Go.ChangeShapes Go.WideShapes Go.ChangeAt Go.RowKit

theorem own : ownKnob Tryz.prog.godebug = none := by kernel_rfl

theorem laid_mem {P : Program} {W : World} : ∀ {l : List (String × DataW Unit)} {ps : List MemPlace}, DataW.LaidVars P W l ps → ∀ {n : String} {d : DataW Unit}, (n, d) ∈ l →
    ∃ g t cs fuel p, P.globalNamed n = some g ∧ (P.globals[g]?).map (·.type) = some t ∧ W.var? P n = some cs ∧ DataW.trod (fun _ => ()) P W 0 (fun _ => true) false fuel t cs.toList = some (d, p)
  | [], _, _, _, _, hm => by cases hm
  | (m, x) :: r, ps, h, n, d, hm => by
    obtain ⟨g, t, cs, fuel, p, q, h1, h2, h3, h4, h5, _⟩ := h
    rcases List.mem_cons.1 hm with e | e
    · injection e with e1 e2
      subst e1 e2
      exact ⟨g, t, cs, fuel, p, h1, h2, h3, h4⟩
    · exact laid_mem h5 e

theorem tabIs_of {P : Program} {W : World} {l : List (String × DataW Unit)} (h : laidMet P l W) {n : String} {k : IntKind} {zs : List Int} {g : Nat} {t e : TypeId} {c : Nat} (hm : (n, Lib.tabData k zs) ∈ l)
    (hg : P.globalNamed n = some g) (hty : (P.globals[g]?).map (·.type) = some t) (ht : P.underlying t = some (.array c e)) (he : P.underlying e = some (.int k)) (hce : P.cellsOf e = 1) (hct : P.cellsOf t = c) : Lib.TabIs P W n k zs := by
  obtain ⟨ps, hl, _, _⟩ := h
  obtain ⟨g', t', cs, fuel, p, h1, h2, h3, h4⟩ := laid_mem hl hm
  obtain rfl := Option.some.inj (hg.symm.trans h1)
  obtain rfl := Option.some.inj (hty.symm.trans h2)
  have := Lib.cells_of_tab ht he hce hct h4
  unfold Lib.TabIs
  rw [h3, ← this]
theorem iface_of {P : Program} {W : World} {l : List (String × DataW Unit)} (h : laidMet P l W) {n s : String} {d : DataW Unit} {g : Nat} {t : TypeId} {ms : Array (String × TypeId)} (hm : (n, .iface s d) ∈ l)
    (hg : P.globalNamed n = some g) (hty : (P.globals[g]?).map (·.type) = some t) (ht : P.underlying t = some (.interface ms)) : ∃ u v, W.var? P n = some #[.iface u v] := by
  obtain ⟨ps, hl, _, _⟩ := h
  obtain ⟨g', t', cs, fuel, p, h1, h2, h3, h4⟩ := laid_mem hl hm
  obtain rfl := Option.some.inj (hg.symm.trans h1)
  obtain rfl := Option.some.inj (hty.symm.trans h2)
  obtain ⟨_, u, v, e, _⟩ := iface_of_trod ht h4
  exact ⟨u, v, by rw [h3]; congr 1; rw [← Array.toList_inj]; exact e⟩

/-- The cells of a datum of numbers. -/
def lit1 : DataW Unit → List Value
  | .lit (.int k v) => [.int k v]
  | _ => []
def lit2 : DataW Unit → List Value
  | .agg ps => ps.flatMap fun q => match q with
    | .agg qs => qs.flatMap lit1
    | x => lit1 x
  | x => lit1 x
def litR : DataW Unit → List Value
  | .ptr (.agg (.slice es _ :: _)) => es.flatMap lit2
  | _ => []
/-- So many blocks has the settled world. -/
noncomputable def low : Nat := (World.holding Tryz.prog default ⟨#[], #[], []⟩).heap.size
def setObj (c : Array Value) : Obj → Obj
  | .cells _ t frozen => .cells c t frozen
  | o => o
/-- The settled world, the listed variables as their initialisers lay them. -/
noncomputable def laidWorld (os : Os) : World :=
  let w0 := World.holding Tryz.prog os ⟨#[.cells #[.string ⟨#[118, 97, 108, 117, 101, 32, 111, 117, 116, 32, 111, 102, 32, 114, 97, 110, 103, 101]⟩] 164, .cells #[.string ⟨#[105, 110, 118, 97, 108, 105, 100, 32, 115, 121, 110, 116, 97, 120]⟩] 164], #[], []⟩
  { w0 with heap := (fun h => h.modify 1 (setObj (lit2 (Rows.laid_internal_strconv_uint64pow10)).toArray)) ((fun h => h.modify 6 (setObj (lit2 (Rows.laid_math_bits_deBruijn32tab)).toArray)) ((fun h => h.modify 7 (setObj (lit2 (Rows.laid_math_bits_deBruijn64tab)).toArray)) ((fun h => h.modify 5 (setObj #[.iface 162 (.pointer (some ⟨low + 0, 0, none⟩))])) ((fun h => h.modify 4 (setObj #[.iface 162 (.pointer (some ⟨low + 1, 0, none⟩))])) ((fun h => h.modify 3 (setObj (lit2 (Rows.laid_unicode_utf8_acceptRanges)).toArray)) ((fun h => h.modify 2 (setObj (lit2 (Rows.laid_unicode_utf8_first)).toArray)) (w0.heap))))))) }
end Go.Proofs.YtpcffnhbodjpbaaGreatDoor
