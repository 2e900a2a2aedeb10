/- The law RespMessages at all its arguments. -/
import Derived.Test.YtgdhakkfddmkjaaDoorLawResp5
import Derived.Test.YtgdhakkfddmkjaaDoorLawRespB
set_option linter.unusedVariables false
set_option linter.unusedSimpArgs false
namespace Go.Proofs.YtgdhakkfddmkjaaDoor
open Go Go.RowKit

def bitF (k : Fin 32) (m : Int) : Bool := bits .and .i64 (k.val : Int) m != 0
def itF (k : Fin 32) : Int := if (bits .and .i64 (k.val : Int) 8 != 0) = true then bits .or .i64 (k.val : Int) 16 else (k.val : Int)
theorem bits_tab : ∀ k : Fin 32, (bits .and .i64 (itF k) 1 != 0) = bitF k 1 ∧ (bits .and .i64 (itF k) 2 != 0) = bitF k 2 ∧ (bits .and .i64 (itF k) 4 != 0) = bitF k 4 ∧ (bits .and .i64 (itF k) 16 != 0) = bitF k 24 ∧ decide (0 < (k.val : Int)) = (bitF k 1 || bitF k 2 || bitF k 4 || bitF k 24) := by decide +kernel
theorem ad_or (b1 b2 b4 b16 : Bool) : adI (adI (adI (adI 0 b1 1) b2 2) b4 4) b16 16 = itemsOf b1 b2 b4 b16 := by
  cases b1 <;> cases b2 <;> cases b4 <;> cases b16 <;> rfl
theorem has_items : ∀ b1 b2 b4 b16 : Bool, hasI (itemsOf b1 b2 b4 b16) 1 = b1 ∧ hasI (itemsOf b1 b2 b4 b16) 2 = b2 ∧ hasI (itemsOf b1 b2 b4 b16) 4 = b4 ∧ hasI (itemsOf b1 b2 b4 b16) 16 = b16 ∧ (itemsOf b1 b2 b4 b16 ≠ 0 ↔ (b1 || b2 || b4 || b16) = true) ∧ 0 ≤ itemsOf b1 b2 b4 b16 ∧ itemsOf b1 b2 b4 b16 ≤ 31 := by decide +kernel
def msgR (q fl ui : Nat) (l : List UInt8) (b1 b2 b4 b16 : Bool) : Rsp := ⟨4, q, [], 0, [], itemsOf b1 b2 b4 b16, if b1 = true then fl else 0, if b2 = true then ui else 0, if b4 = true then l.length else 0, if b16 = true then l else []⟩
theorem msgR_ok {q fl ui : Nat} {l : List UInt8} (b1 b2 b4 b16 : Bool) (hq : q < 4294967296) (hf : fl < 256) (hu : ui < 4294967296) (hl : l.length ≤ 500) : RspOk (msgR q fl ui l b1 b2 b4 b16) := by
  unfold RspOk msgR
  refine ⟨hq, ?_, ?_, ?_, by show 0 ≤ 1000; omega, by show 0 ≤ 1000; omega, ?_⟩ <;> dsimp only <;> split <;> (try simp only [List.length_nil]) <;> omega
theorem msgR_valid {q fl ui : Nat} {l : List UInt8} (b1 b2 b4 b16 : Bool) (hf : fl ≤ 31) (hl : l.length ≤ 500) : vldB (msgR q fl ui l b1 b2 b4 b16) = (b1 || b2 || b4 || b16) := by
  obtain ⟨h1, h2, h4, h16, h0, -⟩ := has_items b1 b2 b4 b16
  rw [Bool.eq_iff_iff, vldB_iff]
  constructor
  · rintro ⟨h | ⟨_, h, _⟩ | ⟨h, _⟩ | ⟨h, _⟩, _⟩
    · exact absurd h (by simp only [msgR]; decide)
    · simp only [msgR, h1, h2, h4, h16] at h
      exact h0.1 h
    · exact absurd h (by simp only [msgR]; decide)
    · exact absurd h (by simp only [msgR]; decide)
  · intro h
    refine ⟨.inr (.inl ⟨rfl, ?_, ?_, ?_⟩), ?_⟩
    · simp only [msgR, h1, h2, h4, h16]
      exact h0.2 h
    · simp only [msgR]; split <;> omega
    · simp only [msgR]; split <;> (try simp only [List.length_nil]) <;> omega
    · unfold maskR
      rw [if_neg (by simp only [msgR]; decide), if_pos (by rfl)]
      simp only [msgR, h1, h2, h4, h16]
      refine ⟨rfl, rfl, rfl, rfl, rfl, rfl, ?_, ?_, ?_, ?_⟩
      · cases b1 <;> rfl
      · cases b2 <;> rfl
      · cases b4 <;> rfl
      · cases b16 <;> rfl
theorem msgR_agg (q fl ui : Nat) (l : List UInt8) (b1 b2 b4 b16 : Bool) (p : Option Addr) (c : Nat) :
    rspA (msgR q fl ui l b1 b2 b4 b16) (selA b16 p) (selN b16 c) = outC 4 q (itemsOf b1 b2 b4 b16) (selI b1 fl) (selI b2 ui) (selI b4 (l.length : Nat)) (.slice (selA b16 p) (selN b16 l.length) (selN b16 c)) := by
  rw [selI_nat, selI_nat, selI_nat, sel_len]
  rfl
theorem msgR_bys {W : World} {p : Option Addr} {l : List UInt8} (q fl ui : Nat) (b1 b2 b4 b16 : Bool) (h : b16 = true → Bys W W.heap.size p l) : Bys W W.heap.size (selA b16 p) (msgR q fl ui l b1 b2 b4 b16).body := by
  show Bys W W.heap.size (selA b16 p) (if b16 = true then l else [])
  cases b16
  · exact Bys.nil _ _ _
  · exact h rfl

theorem respMessages_walk (q i ui fl : Nat) (P : Option Addr) (l : List UInt8) (c : Nat) (w : World) (hq : q < 4294967296) (hi : i < 256) (hu : ui < 4294967296) (hf : fl < 256) (hc : l.length ≤ c) (hm : c ≤ maxLen) (hb : Bys w w.heap.size P l) (hn : P = none → l.length = 0 ∧ c = 0) (hS : Std w) (hA : StdA w) :
    Calls Tryd.prog 5 #[.int .u32 q, .int .u8 i, .agg #[.int .u32 ui, .int .u8 fl, .slice P l.length c]] w fun e w' => e = .returned (.bool true) ∧ Below w.heap.size w w' := by
  obtain ⟨k, hk⟩ : ∃ k : Fin 32, k.val = i % 32 := ⟨⟨i % 32, Nat.mod_lt _ (by decide)⟩, rfl⟩
  obtain ⟨t1, t2, t4, t16, t0⟩ := bits_tab k
  unfold maxLen at hm
  have hkl := k.isLt
  refine messages_core q i (k.val : Nat) ui fl (itemsOf (bitF k 1) (bitF k 2) (bitF k 4) (bitF k 24)) (selI (bitF k 1) fl) (selI (bitF k 2) ui) (selI (bitF k 4) (l.length : Nat)) P l c (selN (bitF k 24) l.length) (bitF k 24) (bitF k 1 || bitF k 2 || bitF k 4 || bitF k 24) w (by omega) (by omega) (by omega) (by omega) (by omega) (by omega) ?_ (by omega) (by omega) (by omega) hc rfl hb t0 (fun W hW => alive09_walk W (hS.below hW) (hA.below hW)) ?_ ?_ ?_ ?_
  · rw [hk]
    rw [Int.tmod_eq_emod_of_nonneg (by omega)]
    omega
  · intro hl W P' c' hW hb' hn'
    have h := message_any q (k.val : Nat) (itF k) fl ui P' l c' W rfl _ _ _ _ t1 t2 t4 t16 hb' (by omega) hn' (by omega) (by omega)
    refine h.mono ?_
    rintro e w' ⟨pv, cv, rfl, h1, h2⟩
    refine ⟨pv, cv, ?_, h1, h2⟩
    rw [orI_items]
  · intro hl W hW
    have h := rmessage_any q (k.val : Nat) fl ui P l c W _ _ _ _ rfl rfl rfl rfl ((hb.below hW).more hW.size) (by omega) (by omega) (by omega)
    refine h.mono ?_
    rintro e w' ⟨pv, cv, rfl, h1, h2⟩
    refine ⟨pv, cv, ?_, h1, h2⟩
    rw [ad_or]
    rfl
  · intro hl W p c p' c' h1 h2
    have h := same_ref (msgR q fl ui l (bitF k 1) (bitF k 2) (bitF k 4) (bitF k 24)) (msgR q fl ui l (bitF k 1) (bitF k 2) (bitF k 4) (bitF k 24)) (selA (bitF k 24) p) (selA (bitF k 24) p') (selN (bitF k 24) c) (selN (bitF k 24) c') W (msgR_ok _ _ _ _ hq hf hu hl) (msgR_ok _ _ _ _ hq hf hu hl) (msgR_bys _ _ _ _ _ _ _ h1) (msgR_bys _ _ _ _ _ _ _ h2)
    rw [msgR_agg, msgR_agg, sameFR_refl] at h
    exact h
  · intro hl hf31 W p c h1
    have h := valid_any (msgR q fl ui l (bitF k 1) (bitF k 2) (bitF k 4) (bitF k 24)) (selA (bitF k 24) p) (selN (bitF k 24) c) W (msgR_ok _ _ _ _ hq hf hu hl) (msgR_bys _ _ _ _ _ _ _ h1)
    rw [msgR_agg, msgR_valid _ _ _ _ (by omega) hl] at h
    exact h
end Go.Proofs.YtgdhakkfddmkjaaDoor
