/- Plain law: the line of a valid response with no body has no line end. -/
import Derived.Test.YtgdhakkfddmkjaaDoorJ5
set_option linter.unusedVariables false
set_option linter.unusedSimpArgs false
namespace Go.Proofs.YtgdhakkfddmkjaaDoor
open Go.Lib

/-- No byte is 13 or 10. -/
def clL (l : List UInt8) : Bool := l.all fun b => b != 13 && b != 10
theorem cl_app (a b : List UInt8) : clL (a ++ b) = (clL a && clL b) := List.all_append
theorem cl_of {p : UInt8 → Bool} (hp : ∀ b : UInt8, p b = true → (b != 13 && b != 10) = true) {l : List UInt8} (h : l.all p = true) : clL l = true := by
  unfold clL
  rw [List.all_eq_true] at h ⊢
  exact fun b hb => hp b (h b hb)
theorem cl_dec (n : Nat) : clL (decDigits n) = true := cl_of (fun b h => by
  simp only [digitB, Bool.and_eq_true, decide_eq_true_eq] at h
  simp only [Bool.and_eq_true, bne_iff_ne]
  constructor <;> rintro rfl <;> revert h <;> decide) (val_dec n).2
theorem cl_listF : ∀ f : Fin 32, clL (listF f.val) = true := by decide +kernel
theorem cl_txt {l : List UInt8} (h : txtL l = true) : clL l = true := by
  unfold txtL at h
  rw [Bool.and_eq_true] at h
  refine cl_of (fun b hb => ?_) h.2
  simp only [Bool.and_eq_true, bne_iff_ne]
  constructor <;> rintro rfl <;> revert hb <;> decide
theorem cl_tag {l : List UInt8} (h : tagL l = true) : clL l = true := by
  unfold tagL at h
  rw [Bool.and_eq_true] at h
  refine cl_of (fun b hb => ?_) h.2
  simp only [Bool.and_eq_true, bne_iff_ne]
  constructor <;> rintro rfl <;> revert hb <;> decide
theorem cl_join : ∀ ws : List (List UInt8), (∀ w ∈ ws, clL w = true) → clL (joinF ws) = true
  | [], _ => rfl
  | [a], h => h a (by simp)
  | a :: b :: r, h => by
    have h1 := cl_join (b :: r) (fun w hw => h w (List.mem_cons_of_mem _ hw))
    have h2 := h a (by simp)
    show clL (a ++ ([32] ++ joinF (b :: r))) = true
    rw [cl_app, cl_app, h1, h2]; rfl
/-- The line of a valid response without a body. -/
theorem cl_line {r : Rsp} (h : ValidR r) (hb : hasI r.items 16 = false) : clL (lineR r) = true := by
  have h := h.1
  unfold lineR
  rcases h with (k | k | k | k) | ⟨k, _, hf, _⟩ | ⟨k | k | k | k, ht⟩ | ⟨k, ht, hx, h1, h2⟩ <;> rw [k]
  · rw [if_pos rfl, cl_app, cl_app, cl_dec]; rfl
  · rw [if_neg (by decide), if_pos rfl, cl_app, cl_app, cl_dec]; rfl
  · rw [if_neg (by decide), if_neg (by decide), if_pos rfl, cl_app, cl_app, cl_dec]; rfl
  · rw [if_neg (by decide), if_neg (by decide), if_neg (by decide), if_neg (by decide), if_pos rfl, cl_app, cl_listF ⟨31, by decide⟩]; rfl
  · rw [if_neg (by decide), if_neg (by decide), if_neg (by decide), if_pos rfl, cl_app, cl_app, cl_app, cl_app, cl_dec, cl_join]
    · rfl
    · intro w hw
      unfold wordsR at hw
      rw [hb] at hw
      rcases List.mem_append.1 hw with hw | hw
      · rw [optW_mem hw]
        unfold wF
        rw [cl_app, cl_listF ⟨r.flags, by omega⟩]; rfl
      · rcases List.mem_append.1 hw with hw | hw
        · rw [optW_mem hw]
          unfold wU
          rw [cl_app, cl_dec]; rfl
        · rcases List.mem_append.1 hw with hw | hw
          · rw [optW_mem hw]
            unfold wS
            rw [cl_app, cl_dec]; rfl
          · cases hw
  · rw [if_neg (by decide), if_neg (by decide), if_neg (by decide), if_neg (by decide), if_neg (by decide), if_pos rfl, cl_app, cl_txt ht]; rfl
  · rw [if_neg (by decide), if_neg (by decide), if_neg (by decide), if_neg (by decide), if_neg (by decide), if_neg (by decide), if_pos rfl, cl_app, cl_txt ht]; rfl
  · rw [if_neg (by decide), if_neg (by decide), if_neg (by decide), if_neg (by decide), if_neg (by decide), if_neg (by decide), if_neg (by decide), if_pos rfl, cl_app, cl_txt ht]; rfl
  · rw [if_neg (by decide), if_neg (by decide), if_neg (by decide), if_neg (by decide), if_neg (by decide), if_neg (by decide), if_neg (by decide), if_neg (by decide), if_neg (by decide), if_pos rfl, cl_app, cl_txt ht]; rfl
  · have hs : clL (stW r.status) = true := by
      obtain e | e | e : r.status = 0 ∨ r.status = 1 ∨ r.status = 2 := by omega
      all_goals rw [e]; rfl
    rw [if_neg (by decide), if_neg (by decide), if_neg (by decide), if_neg (by decide), if_neg (by decide), if_neg (by decide), if_neg (by decide), if_neg (by decide), if_pos rfl]
    show clL (r.tag ++ ([32] ++ (stW r.status ++ ([32] ++ r.text)))) = true
    rw [cl_app, cl_app, cl_app, cl_app, cl_tag ht, cl_txt hx, hs]; rfl
theorem cl_ne {l : List UInt8} (h : clL l = true) : (∀ b ∈ l, (b.toNat : Int) ≠ 13) ∧ ∀ b ∈ l, (b.toNat : Int) ≠ 10 := by
  unfold clL at h
  rw [List.all_eq_true] at h
  constructor <;> intro b hb e <;> have h1 := h b hb <;> simp only [Bool.and_eq_true, bne_iff_ne] at h1
  · exact h1.1 (UInt8.toNat_inj.1 (by show b.toNat = 13; omega))
  · exact h1.2 (UInt8.toNat_inj.1 (by show b.toNat = 10; omega))
end Go.Proofs.YtgdhakkfddmkjaaDoor
