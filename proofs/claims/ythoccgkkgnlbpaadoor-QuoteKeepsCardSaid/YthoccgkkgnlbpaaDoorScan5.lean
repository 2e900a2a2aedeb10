/- The walk of ScanLiteral; how long the bytes are that are read. -/
import Derived.Test.YthoccgkkgnlbpaaDoorScan4
namespace Go.Proofs.YthoccgkkgnlbpaaDoor
open Go.RowKit

set_option maxRecDepth 100000 in
theorem scanLiteral_any (P : Option Addr) (l : List UInt8) (c : Nat) (a : Int) (w : World) (h : Bys w w.heap.size P l) (hl : l.length ≤ 1048576) (hlc : l.length ≤ c) (hS : Std w) :
    Calls Tryd.prog 22 #[.slice P l.length c, .int .i64 a] w (RetS w (scanL l a)) := by
  have H := Lib.hid (scan_any 38 P l c a w (scanL l a) (fun _ _ => rfl) (fun w1 hst => sLiteral_any w w.heap.size P l c a w1 hst h hl hlc hS (Nat.le_refl _)))
  generalize scanL l a = r at H ⊢
  generalize l.length = n at *
  clear h hl hlc hS
  go_enter Tryd.func22, Tryd.ntmps22
  go_wp2_with fail
  refine H.out.mono ?_
  rintro e w1 hp
  have HP := Lib.hid hp
  obtain ⟨v, rfl, -, -⟩ := hp
  go_wp2_with fail
  go_ret3
  exact HP.out

theorem sq_len : ∀ (n : Nat) (l : List UInt8), l.length ≤ n → ∀ x, sq l = some x → x.1.length ≤ l.length
  | _, [], _, x, h => by cases h
  | 0, c :: r, hn, x, h => by simp at hn
  | n + 1, c :: r, hn, x, h => by
    have hr : r.length ≤ n := by simpa using hn
    unfold sq at h
    split at h
    · injection h with h; subst h; simp
    · split at h
      · split at h
        · cases h
        · rename_i d r'
          split at h
          · unfold consQ at h
            rw [Option.map_eq_some_iff] at h
            obtain ⟨y, hy, rfl⟩ := h
            have := sq_len n r' (by simp at hr; omega) y hy
            simp only [List.length_cons]; omega
          · cases h
      · split at h
        · unfold consQ at h
          rw [Option.map_eq_some_iff] at h
          obtain ⟨y, hy, rfl⟩ := h
          have := sq_len n r hr y hy
          simp only [List.length_cons]; omega
        · cases h
def rdM (o : Option (List UInt8 × Nat)) : List UInt8 := (o.map (·.1)).getD []
def rdJ (o : Option (List UInt8 × Nat)) : Nat := (o.map (·.2)).getD 0
theorem scanQ_len (l : List UInt8) (a : Int) : (rdM (scanQ l a)).length ≤ l.length := by
  unfold scanQ
  split
  · cases h : sq (l.drop (a.toNat + 1)) with
    | none => simp [rdM]
    | some x =>
      have := sq_len _ _ (Nat.le_refl _) x h
      rw [List.length_drop] at this
      simp only [rdM, Option.map_some, Option.getD_some]
      omega
  · simp [rdM]
theorem scanL_len (l : List UInt8) (a : Int) : (rdM (scanL l a)).length ≤ l.length := by
  unfold scanL
  split
  · split
    · simp [rdM]
    · split
      · simp [rdM]
      · split
        · simp only [rdM, Option.map_some, Option.getD_some, List.length_take, List.length_drop]; omega
        · simp [rdM]
  · simp [rdM]
/-- RetS, its parts named. -/
theorem RetS.parts {W w' : World} {o : Option (List UInt8 × Nat)} {e : Ending} (h : RetS W o e w') : ∃ p c, e = .returned (.tuple #[.slice p (rdM o).length c, .int .i64 (rdJ o : Nat), .bool o.isSome]) ∧ Buf w' W.heap.size 1 (.slice p (rdM o).length c) (rdM o).length (Lib.byteCells (rdM o)) ∧ Bys w' w'.heap.size p (rdM o) ∧ Below W.heap.size W w' := by
  obtain ⟨v, rfl, hb, hw⟩ := h
  obtain ⟨p, c, rfl, _, hy⟩ := Buf.bys hb
  exact ⟨p, c, rfl, hb, hy, hw⟩
end Go.Proofs.YthoccgkkgnlbpaaDoor
