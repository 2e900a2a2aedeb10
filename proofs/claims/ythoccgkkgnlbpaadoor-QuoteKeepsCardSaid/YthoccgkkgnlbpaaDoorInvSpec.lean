/- Plain laws: reading a form inverts writing it, whatever stands around it. -/
import Derived.Test.YthoccgkkgnlbpaaDoorLitSpec
namespace Go.Proofs.YthoccgkkgnlbpaaDoor
open Go.Lib

theorem dig_all (n : Nat) : ∀ c ∈ decDigits n, digitB c = true := by
  have h := (val_dec n).2
  rw [List.all_eq_true] at h
  exact h
theorem dig_no125 (n : Nat) : (125 : UInt8) ∉ decDigits n := fun h => by
  have := dig_all n _ h
  revert this
  decide
/-- ScanLiteral inverts Literal. -/
theorem scanL_lit (b pre post : List UInt8) (hb : b.length ≤ 65536) : scanL (pre ++ (litB b ++ post)) (pre.length : Nat) = some (b, pre.length + (litB b).length) := by
  have e1 : pre ++ (litB b ++ post) = pre ++ 123 :: (decDigits b.length ++ (125 :: 13 :: 10 :: (b ++ post))) := by simp [litB, litH]
  have elen : (litB b).length = (decDigits b.length).length + 4 + b.length := by simp [litB, litH]; omega
  have hdrop : (pre ++ (litB b ++ post)).drop (pre.length + 1) = decDigits b.length ++ 125 :: (13 :: 10 :: (b ++ post)) := by
    rw [e1, show pre ++ 123 :: (decDigits b.length ++ (125 :: 13 :: 10 :: (b ++ post))) = (pre ++ [123]) ++ (decDigits b.length ++ (125 :: 13 :: 10 :: (b ++ post))) by simp]
    rw [List.drop_left' (by simp)]
  have hk : pre.length < (pre ++ (litB b ++ post)).length := by rw [List.length_append, List.length_append, elen]; omega
  have hx : (pre ++ (litB b ++ post))[pre.length] = 123 := by
    have : (pre ++ (litB b ++ post))[pre.length]? = some 123 := by rw [e1, List.getElem?_append_right (Nat.le_refl _)]; simp
    exact (List.getElem?_eq_some_iff.1 this).2
  have hf : firstIx 125 ((pre ++ (litB b ++ post)).drop (pre.length + 1)) = some (decDigits b.length).length := by
    rw [hdrop, firstIx_mk (dig_no125 _)]
  have hn : numB (((pre ++ (litB b ++ post)).drop (pre.length + 1)).take (decDigits b.length).length) = some b.length := by
    rw [hdrop, List.take_left' rfl, numB_dec _ (by omega)]
  rw [scanL_num hk hx hf hn]
  have g : ∀ i, (pre ++ (litB b ++ post))[pre.length + 1 + i]? = ((pre ++ (litB b ++ post)).drop (pre.length + 1))[i]? := fun i => by rw [List.getElem?_drop]
  have g1 : (pre ++ (litB b ++ post))[pre.length + 1 + (decDigits b.length).length + 1]? = some 13 := by
    rw [Nat.add_assoc (pre.length + 1), g, hdrop, List.getElem?_append_right (by omega)]; simp
  have g2 : (pre ++ (litB b ++ post))[pre.length + 1 + (decDigits b.length).length + 2]? = some 10 := by
    rw [Nat.add_assoc (pre.length + 1), g, hdrop, List.getElem?_append_right (by omega)]; simp
  have hl : (pre ++ (litB b ++ post)).length = pre.length + ((litB b).length + post.length) := by simp
  have hd2 : (pre ++ (litB b ++ post)).drop (pre.length + 1 + (decDigits b.length).length + 3) = b ++ post := by
    rw [Nat.add_assoc (pre.length + 1), ← List.drop_drop, hdrop, show decDigits b.length ++ 125 :: (13 :: 10 :: (b ++ post)) = (decDigits b.length ++ [125, 13, 10]) ++ (b ++ post) by simp, List.drop_left' (by simp)]
  rw [if_pos ⟨by omega, g1, g2, by rw [hl, elen]; omega⟩, hd2, List.take_left' rfl, elen]
  congr 2
  omega

theorem sq_esc (d : UInt8) (l : List UInt8) (h : d = 34 ∨ d = 92) : sq (92 :: d :: l) = consQ d 2 (sq l) := by
  conv => lhs; unfold sq
  simp only [show ¬ ((92 : UInt8) = 34) by decide, if_false, if_true, if_pos h]
theorem sq_txt (c : UInt8) (l : List UInt8) (h1 : c ≠ 34) (h2 : c ≠ 92) (ht : textB c.toNat = true) : sq (c :: l) = consQ c 1 (sq l) := by
  conv => lhs; unfold sq
  rw [if_neg h1, if_neg h2, if_pos ht]
theorem sq_form (post : List UInt8) : ∀ b : List UInt8, b.all (fun b => textB b.toNat) = true → sq (b.flatMap qesc ++ 34 :: post) = some (b, (b.flatMap qesc).length + 1)
  | [], _ => by show sq (34 :: post) = _; unfold sq; simp
  | c :: b, h => by
    rw [List.all_cons, Bool.and_eq_true] at h
    have ih := sq_form post b h.2
    rw [List.flatMap_cons]
    by_cases hc : c.toNat = 34 ∨ c.toNat = 92
    · have hc2 : c = 34 ∨ c = 92 := by
        rcases hc with h | h
        · exact .inl (UInt8.toNat_inj.1 h)
        · exact .inr (UInt8.toNat_inj.1 h)
      have e : qesc c = [92, c] := by unfold qesc; rw [if_pos hc]
      rw [e]
      show sq (92 :: c :: (b.flatMap qesc ++ 34 :: post)) = _
      rw [sq_esc _ _ hc2, ih]
      simp only [consQ, Option.map_some, List.length_append, List.length_cons, List.length_nil]
      congr 2
      omega
    · have h1 : c ≠ 34 := fun e => hc (.inl (by rw [e]; rfl))
      have h2 : c ≠ 92 := fun e => hc (.inr (by rw [e]; rfl))
      have e : qesc c = [c] := by unfold qesc; rw [if_neg hc]
      rw [e]
      show sq (c :: (b.flatMap qesc ++ 34 :: post)) = _
      rw [sq_txt _ _ h1 h2 h.1, ih]
      simp only [consQ, Option.map_some, List.length_append, List.length_cons, List.length_nil]
      congr 2
      omega
/-- ScanQuoted inverts Quoted. -/
theorem scanQ_quo (b x pre post : List UInt8) (hx : quoB b = some x) : scanQ (pre ++ (x ++ post)) (pre.length : Nat) = some (b, pre.length + x.length) := by
  unfold quoB at hx
  split at hx
  · rename_i hall
    injection hx with hx
    subst hx
    have e : pre ++ ((34 :: (b.flatMap qesc ++ [34])) ++ post) = (pre ++ [34]) ++ (b.flatMap qesc ++ 34 :: post) := by simp
    unfold scanQ
    rw [if_pos ⟨by omega, by simp; omega, by rw [Int.toNat_natCast, List.getElem?_append_right (Nat.le_refl _)]; simp⟩, Int.toNat_natCast, e, List.drop_left' (by simp), sq_form post b hall]
    simp only [Option.map_some]
    congr 2
    simp
    omega
  · cases hx
end Go.Proofs.YthoccgkkgnlbpaaDoor
