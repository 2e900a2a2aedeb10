/- What the statements' rows list, as the walks take it; and a world that fits, for the witness. -/
import Derived.Test.YthoccgkkgnlbpaaDoorRows
import Derived.Test.YthoccgkkgnlbpaaDoorG
import Derived.Lib.LaidTab
import Derived.LaidLaws
import Derived.MakeChecks
namespace Go.Proofs.YthoccgkkgnlbpaaDoor
open Go Go.ChangeShapes Go.WideShapes Go.ChangeAt Go.RowKit

theorem own : ownKnob Tryd.prog.godebug = none := by kernel_rfl

theorem laid_mem {P : Program} {W : World} : ∀ {l : List (String × DataW Unit)} {ps : List MemPlace}, DataW.LaidVars P W l ps → ∀ {n : String} {d : DataW Unit}, (n, d) ∈ l →
    ∃ g t cs fuel p, P.globalNamed n = some g ∧ (P.globals[g]?).map (·.type) = some t ∧ W.var? P n = some cs ∧ DataW.trod (fun _ => ()) P W 0 (fun _ => true) false fuel t cs.toList = some (d, p)
  | [], _, _, _, _, hm => by cases hm
  | (m, x) :: r, ps, h, n, d, hm => by
    obtain ⟨g, t, cs, fuel, p, q, h1, h2, h3, h4, h5, _⟩ := h
    rcases List.mem_cons.1 hm with e | e
    · injection e with e1 e2
      subst e1 e2
      exact ⟨g, t, cs, fuel, p, h1, h2, h3, h4⟩
    · exact laid_mem h5 e

theorem tabIs_of {P : Program} {W : World} {l : List (String × DataW Unit)} (h : laidMet P l W) {n : String} {k : IntKind} {zs : List Int} {g : Nat} {t e : TypeId} {c : Nat} (hm : (n, Lib.tabData k zs) ∈ l)
    (hg : P.globalNamed n = some g) (hty : (P.globals[g]?).map (·.type) = some t) (ht : P.underlying t = some (.array c e)) (he : P.underlying e = some (.int k)) (hce : P.cellsOf e = 1) (hct : P.cellsOf t = c) : Lib.TabIs P W n k zs := by
  obtain ⟨ps, hl, _, _⟩ := h
  obtain ⟨g', t', cs, fuel, p, h1, h2, h3, h4⟩ := laid_mem hl hm
  obtain rfl := Option.some.inj (hg.symm.trans h1)
  obtain rfl := Option.some.inj (hty.symm.trans h2)
  have := Lib.cells_of_tab ht he hce hct h4
  unfold Lib.TabIs
  rw [h3, ← this]
theorem iface_of {P : Program} {W : World} {l : List (String × DataW Unit)} (h : laidMet P l W) {n s : String} {d : DataW Unit} {g : Nat} {t : TypeId} {ms : Array (String × TypeId)} (hm : (n, .iface s d) ∈ l)
    (hg : P.globalNamed n = some g) (hty : (P.globals[g]?).map (·.type) = some t) (ht : P.underlying t = some (.interface ms)) : ∃ u v, W.var? P n = some #[.iface u v] := by
  obtain ⟨ps, hl, _, _⟩ := h
  obtain ⟨g', t', cs, fuel, p, h1, h2, h3, h4⟩ := laid_mem hl hm
  obtain rfl := Option.some.inj (hg.symm.trans h1)
  obtain rfl := Option.some.inj (hty.symm.trans h2)
  obtain ⟨_, u, v, e, _⟩ := iface_of_trod ht h4
  exact ⟨u, v, by rw [h3]; congr 1; rw [← Array.toList_inj]; exact e⟩

/-- The list that each row of this seat bears. -/
def laidList : List (String × DataW Unit) := [("math/bits.deBruijn32tab", Rows.laid_math_bits_deBruijn32tab), ("math/bits.deBruijn64tab", Rows.laid_math_bits_deBruijn64tab), ("internal/strconv.uint64pow10", Rows.laid_internal_strconv_uint64pow10), ("strconv.ErrRange", Rows.laid_strconv_ErrRange), ("strconv.ErrSyntax", Rows.laid_strconv_ErrSyntax)]

theorem std_of_laid {W : World} (h : laidMetH Tryd.prog laidList W) : Std W := by
  rw [Go.MakeChecks.laidMetH_plain _ _ _ (by kernel_rfl)] at h
  exact ⟨tabIs_of h (t := 93) (e := 59) (c := 20) (.tail _ (.tail _ (show (_, Lib.tabData _ _) ∈ (("internal/strconv.uint64pow10", Lib.tabData .u64 Lib.pow10Tab) :: _ : List (String × DataW Unit)) from .head _))) gTab (by kernel_rfl) Tryd.underlying93 Tryd.underlying59 (by kernel_rfl) (by kernel_rfl),
    iface_of h (.tail _ (.tail _ (.tail _ (.tail _ (.head _))))) gSyn (by kernel_rfl) Tryd.underlying48,
    iface_of h (.tail _ (.tail _ (.tail _ (.head _)))) gRng (by kernel_rfl) Tryd.underlying48⟩

/-- So many blocks has the settled world. -/
noncomputable def low : Nat := (World.holding Tryd.prog default ⟨#[], #[], []⟩).heap.size
def setObj (c : Array Value) : Obj → Obj
  | .cells _ t frozen => .cells c t frozen
  | o => o
def tabCells (k : IntKind) (l : List Int) : Array Value := (l.map (Value.int k)).toArray
/-- The settled world, the listed variables as their initialisers lay them. -/
noncomputable def laidWorld (os : Os) : World :=
  let w0 := World.holding Tryd.prog os ⟨#[.cells #[.string ⟨#[105, 110, 118, 97, 108, 105, 100, 32, 115, 121, 110, 116, 97, 120]⟩] 99, .cells #[.string ⟨#[118, 97, 108, 117, 101, 32, 111, 117, 116, 32, 111, 102, 32, 114, 97, 110, 103, 101]⟩] 99], #[], []⟩
  { w0 with heap := ((((w0.heap.modify 1 (setObj #[.iface 97 (.pointer (some ⟨low, 0, none⟩))])).modify 2 (setObj #[.iface 97 (.pointer (some ⟨low + 1, 0, none⟩))])).modify 3 (setObj (tabCells .u64 Lib.pow10Tab))).modify 4 (setObj (tabCells .u8 [0, 1, 28, 2, 29, 14, 24, 3, 30, 22, 20, 15, 25, 17, 4, 8, 31, 27, 13, 23, 21, 19, 16, 7, 26, 12, 18, 6, 11, 5, 10, 9]))).modify 5 (setObj (tabCells .u8 [0, 1, 56, 2, 57, 49, 28, 3, 61, 58, 42, 50, 38, 29, 17, 4, 62, 47, 59, 36, 45, 43, 51, 22, 53, 39, 33, 30, 24, 18, 12, 5, 63, 55, 48, 27, 60, 41, 37, 16, 46, 35, 44, 21, 52, 32, 23, 11, 54, 26, 40, 15, 34, 20, 31, 10, 25, 14, 19, 9, 13, 8, 7, 6])) }
set_option maxRecDepth 100000 in
theorem laid_met (os : Os) (args : Array Value) : laidMet Tryd.prog laidList ((laidWorld os).forCall (fun _ _ => 0) ⟨#[], args, []⟩).memory :=
  laidMet_of_run' 8 (by kernel_rfl) (by kernel_rfl)
end Go.Proofs.YthoccgkkgnlbpaaDoor
