/- The walk of the reference's Next. · The walk of the reference's Next at a quoted and at a literal. · The walk of the reference's Next at a word, and whatever stands there. · The walk of the reference's Tokens. -/
import Derived.Test.YtkifhgnoadmfkaaDoorJ5
import Derived.Test.YtkifhgnoadmfkaaDoorJ4
import Derived.Test.YtkifhgnoadmfkaaDoorJ12
import Derived.Test.YtkifhgnoadmfkaaDoorJ13
set_option linter.unusedVariables false
set_option linter.unusedSimpArgs false
namespace Go.Proofs.YtkifhgnoadmfkaaDoor
open Go.RowKit

set_option maxRecDepth 100000 in
theorem rWordByte_any (c : UInt8) (w : World) :
    Calls Tryd.prog 47 #[.int .u8 (c.toNat : Int)] w fun e w' => e = .returned (.bool (wordB c)) ∧ w' = w := by
  have hn : ∀ v : UInt8, c ≠ v → ((c.toNat : Int) == (v.toNat : Int)) = false := fun v h => by
    rw [beq_eq_false_iff_ne]; intro e; exact h (UInt8.toNat_inj.1 (by omega))
  have hc := c.toNat_lt
  by_cases h1 : 32 < c.toNat
  · have i1 : (32 : Int) < (c.toNat : Int) := by omega
    by_cases h2 : c.toNat ≤ 126
    · have i2 : (c.toNat : Int) < 127 := by omega
      have R0 : wordB c = !(c == 40 || c == 41 || c == 34 || c == 123) := by unfold wordB; rw [decide_eq_true h1, decide_eq_true h2]; rfl
      by_cases q1 : c = 40
      · subst q1
        clear hn
        go_enter Tryd.func47, Tryd.ntmps47
        go_wp2_with fail
        go_ret
        exact ⟨rfl, rfl⟩
      by_cases q2 : c = 41
      · subst q2
        clear hn
        go_enter Tryd.func47, Tryd.ntmps47
        go_wp2_with fail
        go_ret
        exact ⟨rfl, rfl⟩
      by_cases q3 : c = 34
      · subst q3
        clear hn
        go_enter Tryd.func47, Tryd.ntmps47
        go_wp2_with fail
        go_ret
        exact ⟨rfl, rfl⟩
      have e1 : ((c.toNat : Int) != 40) = true := by have := hn 40 q1; simpa [bne] using this
      have e2 : ((c.toNat : Int) != 41) = true := by have := hn 41 q2; simpa [bne] using this
      have e3 : ((c.toNat : Int) != 34) = true := by have := hn 34 q3; simpa [bne] using this
      by_cases q4 : c = 123
      · subst q4
        clear hn e1 e2 e3
        go_enter Tryd.func47, Tryd.ntmps47
        go_wp2_with fail
        go_ret
        exact ⟨rfl, rfl⟩
      have e4 : ((c.toNat : Int) != 123) = true := by have := hn 123 q4; simpa [bne] using this
      have R : wordB c = true := by rw [R0]; simp [q1, q2, q3, q4]
      rw [R]
      clear R R0 hn q1 q2 q3 q4 h1 h2 hc
      generalize (c.toNat : Int) = x at *
      go_enter Tryd.func47, Tryd.ntmps47
      go_wp2_with fail
      go_ret
      exact ⟨rfl, rfl⟩
    · have R : wordB c = false := by unfold wordB; rw [decide_eq_false h2]; simp
      have i2 : (127 : Int) ≤ (c.toNat : Int) := by omega
      rw [R]
      clear R hn h1 h2 hc
      generalize (c.toNat : Int) = x at *
      go_enter Tryd.func47, Tryd.ntmps47
      go_wp2_with fail
      go_ret
      exact ⟨rfl, rfl⟩
  · have R : wordB c = false := by unfold wordB; rw [decide_eq_false h1]; simp
    have i1 : (c.toNat : Int) ≤ 32 := by omega
    rw [R]
    clear R hn h1 hc
    generalize (c.toNat : Int) = x at *
    go_enter Tryd.func47, Tryd.ntmps47
    go_wp2_with fail
    go_ret
    exact ⟨rfl, rfl⟩

/-- What the reference's Next hands back. -/
def NrPost (w : World) (k : Nat) (o : Option (Tok × Nat)) (e : Ending) (w' : World) : Prop :=
  ∃ (kind : Nat) (text : List UInt8) (j : Nat), e = .returned (.tuple #[.agg #[.int .i64 kind, .string ⟨text.toArray⟩, .int .i64 k], .int .i64 j, .bool o.isSome]) ∧ Below w.heap.size w w' ∧ ∀ t i, o = some (t, i) → kind = t.kind ∧ text = t.text ∧ j = i
theorem NrPost.mk {w w' : World} {k : Nat} {o : Option (Tok × Nat)} (kind : Nat) (text : List UInt8) (j : Nat) (ok : Bool) (kI jI : Int) (hk : kI = (kind : Int)) (hj : jI = (j : Int)) (h1 : o.isSome = ok) (h2 : ∀ t i, o = some (t, i) → kind = t.kind ∧ text = t.text ∧ j = i) (hb : Below w.heap.size w w') :
    NrPost w k o (.returned (.tuple #[.agg #[.int .i64 kI, .string ⟨text.toArray⟩, .int .i64 k], .int .i64 jI, .bool ok])) w' := ⟨kind, text, j, by rw [h1, hk, hj], hb, h2⟩

set_option maxRecDepth 100000 in
set_option maxHeartbeats 800000 in
theorem rNext_end (P : Option Addr) (l : List UInt8) (c : Nat) (w : World) :
    Calls Tryd.prog 24 #[.slice P l.length c, .int .i64 l.length] w (NrPost w l.length (nextT l l.length)) := by
  have HM := Lib.hid (fun w' (hb : Below w.heap.size w w') => NrPost.mk (k := l.length) (o := nextT l l.length) 0 [] l.length true 0 l.length rfl rfl (by rw [nextT_end]; rfl) (fun t i e => by
    rw [nextT_end] at e
    injection e with e; injection e with e1 e2
    subst e1 e2
    exact ⟨rfl, rfl, rfl⟩) hb)
  generalize nextT l l.length = o at HM ⊢
  generalize l.length = n at *
  go_enter Tryd.func24, Tryd.ntmps24
  go_wp2_with fail
  refine bodyPost_ret (v := .tuple #[.agg #[.int .i64 0, .string ⟨#[]⟩, .int .i64 n], .int .i64 n, .bool true]) (by simp [results, Tryd.results24, go_sem]) rfl (HM.out _ ?_)
  exact ((Below.refl _ _).alloc (Nat.le_refl _) _).alloc (by rw [World.size_alloc]; omega) _
set_option maxRecDepth 100000 in
set_option maxHeartbeats 800000 in
theorem rNext_sp (P : Option Addr) (l : List UInt8) (c : Nat) (k : Nat) (w : World) (hy : Bys w w.heap.size P l) (hk : k < l.length) (hl : l.length ≤ 1048576) (hlc : l.length ≤ c) (hx : l[k] = 32) :
    Calls Tryd.prog 24 #[.slice P l.length c, .int .i64 k] w (NrPost w k (nextT l k)) := by
  obtain ⟨p, o, rfl, hpg, hc⟩ := hy (by omega)
  have hcx := hc k hk
  rw [hx, show (((32 : UInt8).toNat : Int)) = 32 from rfl] at hcx
  have hnx : nextT l k = some (⟨1, [], k⟩, k + 1) := by rw [nextT_at hk, hx]; rfl
  have HM := Lib.hid (fun w' (hb : Below w.heap.size w w') => NrPost.mk (k := k) (o := nextT l k) 1 [] (k + 1) true 1 ((k : Int) + 1) rfl (by omega) (by rw [hnx]; rfl) (fun t i e => by
    rw [hnx] at e
    injection e with e; injection e with e1 e2
    subst e1 e2
    exact ⟨rfl, rfl, rfl⟩) hb)
  generalize nextT l k = r at HM ⊢
  have hi0 : (0 : Int) ≤ k := by omega
  have hi1 : (k : Int) < l.length := by omega
  have hkn : ((k : Int) == (l.length : Int)) = false := by rw [beq_eq_false_iff_ne]; omega
  clear hc hx hnx hk hlc hy
  generalize l.length = n at *
  go_enter Tryd.func24, Tryd.ntmps24
  go_wp2_with fail
  refine bodyPost_ret (v := .tuple #[.agg #[.int .i64 1, .string ⟨#[]⟩, .int .i64 k], .int .i64 ((k : Int) + 1), .bool true]) (by simp [results, Tryd.results24, go_sem]) rfl (HM.out _ ?_)
  exact ((Below.refl _ _).alloc (Nat.le_refl _) _).alloc (by rw [World.size_alloc]; omega) _
set_option maxRecDepth 100000 in
set_option maxHeartbeats 800000 in
theorem rNext_op (P : Option Addr) (l : List UInt8) (c : Nat) (k : Nat) (w : World) (hy : Bys w w.heap.size P l) (hk : k < l.length) (hl : l.length ≤ 1048576) (hlc : l.length ≤ c) (hx : l[k] = 40) :
    Calls Tryd.prog 24 #[.slice P l.length c, .int .i64 k] w (NrPost w k (nextT l k)) := by
  obtain ⟨p, o, rfl, hpg, hc⟩ := hy (by omega)
  have hcx := hc k hk
  rw [hx, show (((40 : UInt8).toNat : Int)) = 40 from rfl] at hcx
  have hnx : nextT l k = some (⟨2, [], k⟩, k + 1) := by rw [nextT_at hk, hx]; rfl
  have HM := Lib.hid (fun w' (hb : Below w.heap.size w w') => NrPost.mk (k := k) (o := nextT l k) 2 [] (k + 1) true 2 ((k : Int) + 1) rfl (by omega) (by rw [hnx]; rfl) (fun t i e => by
    rw [hnx] at e
    injection e with e; injection e with e1 e2
    subst e1 e2
    exact ⟨rfl, rfl, rfl⟩) hb)
  generalize nextT l k = r at HM ⊢
  have hi0 : (0 : Int) ≤ k := by omega
  have hi1 : (k : Int) < l.length := by omega
  have hkn : ((k : Int) == (l.length : Int)) = false := by rw [beq_eq_false_iff_ne]; omega
  clear hc hx hnx hk hlc hy
  generalize l.length = n at *
  go_enter Tryd.func24, Tryd.ntmps24
  go_wp2_with fail
  refine bodyPost_ret (v := .tuple #[.agg #[.int .i64 2, .string ⟨#[]⟩, .int .i64 k], .int .i64 ((k : Int) + 1), .bool true]) (by simp [results, Tryd.results24, go_sem]) rfl (HM.out _ ?_)
  exact ((Below.refl _ _).alloc (Nat.le_refl _) _).alloc (by rw [World.size_alloc]; omega) _
set_option maxRecDepth 100000 in
set_option maxHeartbeats 800000 in
theorem rNext_cl (P : Option Addr) (l : List UInt8) (c : Nat) (k : Nat) (w : World) (hy : Bys w w.heap.size P l) (hk : k < l.length) (hl : l.length ≤ 1048576) (hlc : l.length ≤ c) (hx : l[k] = 41) :
    Calls Tryd.prog 24 #[.slice P l.length c, .int .i64 k] w (NrPost w k (nextT l k)) := by
  obtain ⟨p, o, rfl, hpg, hc⟩ := hy (by omega)
  have hcx := hc k hk
  rw [hx, show (((41 : UInt8).toNat : Int)) = 41 from rfl] at hcx
  have hnx : nextT l k = some (⟨3, [], k⟩, k + 1) := by rw [nextT_at hk, hx]; rfl
  have HM := Lib.hid (fun w' (hb : Below w.heap.size w w') => NrPost.mk (k := k) (o := nextT l k) 3 [] (k + 1) true 3 ((k : Int) + 1) rfl (by omega) (by rw [hnx]; rfl) (fun t i e => by
    rw [hnx] at e
    injection e with e; injection e with e1 e2
    subst e1 e2
    exact ⟨rfl, rfl, rfl⟩) hb)
  generalize nextT l k = r at HM ⊢
  have hi0 : (0 : Int) ≤ k := by omega
  have hi1 : (k : Int) < l.length := by omega
  have hkn : ((k : Int) == (l.length : Int)) = false := by rw [beq_eq_false_iff_ne]; omega
  clear hc hx hnx hk hlc hy
  generalize l.length = n at *
  go_enter Tryd.func24, Tryd.ntmps24
  go_wp2_with fail
  refine bodyPost_ret (v := .tuple #[.agg #[.int .i64 3, .string ⟨#[]⟩, .int .i64 k], .int .i64 ((k : Int) + 1), .bool true]) (by simp [results, Tryd.results24, go_sem]) rfl (HM.out _ ?_)
  exact ((Below.refl _ _).alloc (Nat.le_refl _) _).alloc (by rw [World.size_alloc]; omega) _
end Go.Proofs.YtkifhgnoadmfkaaDoor
namespace Go.Proofs.YtkifhgnoadmfkaaDoor
open Go.RowKit

set_option maxRecDepth 100000 in
set_option maxHeartbeats 1600000 in
theorem rNext_quo (P : Option Addr) (l : List UInt8) (c : Nat) (k : Nat) (w : World) (hy : Bys w w.heap.size P l) (hk : k < l.length) (hl : l.length ≤ 1048576) (hlc : l.length ≤ c) (hx : l[k] = 34) :
    Calls Tryd.prog 24 #[.slice P l.length c, .int .i64 k] w (NrPost w k (nextT l k)) := by
  have hbW : ∀ W, Below w.heap.size w W → Bys W W.heap.size P l := fun W hb => (hy.below hb).more hb.size
  have HS := Lib.hid (fun W (hb : Below w.heap.size w W) => rScanQuoted_any P l c k W (hbW W hb) hl)
  obtain ⟨p, o, rfl, hpg, hc⟩ := hy (by omega)
  have hcx := hc k hk
  rw [hx, show (((34 : UInt8).toNat : Int)) = 34 from rfl] at hcx
  have hnx : nextT l k = (scanQ l k).map fun x => (⟨5, x.1, k⟩, x.2) := by rw [nextT_at hk, hx]; rfl
  have HM := Lib.hid (fun w' (hb : Below w.heap.size w w') => NrPost.mk (k := k) (o := nextT l k) 5 (rdM (scanQ l k)) (rdJ (scanQ l k)) (scanQ l k).isSome 5 (rdJ (scanQ l k)) rfl rfl (by rw [hnx, Option.isSome_map]) (fun t i e => by
    rw [hnx, Option.map_eq_some_iff] at e
    obtain ⟨x, hx, e⟩ := e
    injection e with e1 e2
    subst e1 e2
    rw [hx]
    exact ⟨rfl, rfl, rfl⟩) hb)
  generalize nextT l k = r at HM ⊢
  have HP := Lib.hid (fun W (hb : Below w.heap.size w W) => (HS.out W hb).mono (fun e w' (hr : RetS W (scanQ l k) e w') => hr.parts))
  generalize rdM (scanQ l k) = m at HP HM
  generalize rdJ (scanQ l k) = j at HP HM
  generalize (scanQ l k).isSome = ob at HP HM
  have HCV : Hid (∀ (p1 : Option Addr) (c1 : Nat) (W : World), Buf W (w.heap.size + 2) 1 (.slice p1 m.length c1) m.length (Lib.byteCells m) → (convert 22 9 (.slice p1 m.length c1)).run Tryd.prog W = .ok (.string ⟨m.toArray⟩) W) := Lib.hid (fun p1 c1 W hW => by
    obtain ⟨p, c, e, _, hy⟩ := hW.bys
    injection e with e1 e2 e3
    subst e1
    exact conv_bys (P := Tryd.prog) hy c1 Tryd.underlying22 Tryd.underlying5 Tryd.underlying9)
  generalize m.length = ml at *
  have hi0 : (0 : Int) ≤ k := by omega
  have hi1 : (k : Int) < l.length := by omega
  have hkn : ((k : Int) == (l.length : Int)) = false := by rw [beq_eq_false_iff_ne]; omega
  clear hc hx hnx hk hlc hy HS hbW
  generalize l.length = n at *
  go_enter Tryd.func24, Tryd.ntmps24
  go_wp2_with fail
  refine (HP.out _ ?_).mono ?_
  · exact ((Below.refl _ _).alloc (Nat.le_refl _) _).alloc (by rw [World.size_alloc]; omega) _
  rintro e w1 ⟨p1, c1, rfl, hbf, hy1, hb⟩
  have hbW : Below w.heap.size w w1 := (((Below.refl _ _).alloc (Nat.le_refl _) _).alloc (by rw [World.size_alloc]; omega) _).trans (hb.mono (by simp only [World.size_alloc]; omega))
  have hb2 : Blk w1 w.heap.size 37 #[.int .i64 0, .string ⟨#[]⟩, .int .i64 0] := Blk.below (Blk.past (Blk.made _ _ _) _) hb (by simp only [World.size_alloc]; omega)
  have hb3 : Blk w1 (w.heap.size + 1) 37 #[.int .i64 0, .string ⟨#[]⟩, .int .i64 k] := by
    have := Blk.below (Blk.made (w.alloc (.cells #[.int .i64 0, .string ⟨#[]⟩, .int .i64 0] 37)) 37 #[.int .i64 0, .string ⟨#[]⟩, .int .i64 k]) hb (by simp only [World.size_alloc]; omega)
    rw [World.size_alloc] at this
    exact this
  have hbf2 : Buf w1 (w.heap.size + 2) 1 (.slice p1 ml c1) ml (Lib.byteCells m) := hbf.mono (by simp only [World.size_alloc]; omega)
  have hno := hbf2.own_ge
  have HH := Lib.hid (And.intro hbW (And.intro hb2 (And.intro hb3 (HCV.out p1 c1 _ (hbf2.far (p := ⟨w.heap.size + 1, 0, none⟩) (fun e => by have := hno _ e; dsimp only at this; omega) (.int .i64 5))))))
  have d0 : w1.cell? ⟨w.heap.size, 0, none⟩ = some (.int .i64 0) := by rw [hb2.cell]; rfl
  have d1 : w1.cell? ⟨w.heap.size, 1, none⟩ = some (.string ⟨#[]⟩) := by rw [hb2.cell]; rfl
  have d2 : w1.cell? ⟨w.heap.size, 2, none⟩ = some (.int .i64 0) := by rw [hb2.cell]; rfl
  have f0 := hb2.frz 0
  have f1 := hb2.frz 1
  have f2 := hb2.frz 2
  have x0 : w1.cell? ⟨w.heap.size + 1, 0, none⟩ = some (.int .i64 0) := by rw [hb3.cell]; rfl
  have x1 : w1.cell? ⟨w.heap.size + 1, 1, none⟩ = some (.string ⟨#[]⟩) := by rw [hb3.cell]; rfl
  have x2 : w1.cell? ⟨w.heap.size + 1, 2, none⟩ = some (.int .i64 k) := by rw [hb3.cell]; rfl
  have y0 := hb3.frz 0
  have y1 := hb3.frz 1
  have y2 := hb3.frz 2
  clear hb hbW hb2 hb3 hy1 hbf hbf2 hno
  go_wp2_with fail
  rw [HH.out.2.2.2]
  simp only [Result.andThen]
  rw [Oper.upon_value]
  go_wp2_with fail
  have hp := (((((HH.out.2.1.far (p := ⟨w.heap.size + 1, 0, none⟩) (Nat.ne_of_lt (Nat.lt_succ_self _)) (.int .i64 5)).far (p := ⟨w.heap.size + 1, 1, none⟩) (Nat.ne_of_lt (Nat.lt_succ_self _)) (.string ⟨m.toArray⟩)).put 0 (.int .i64 5)).put 1 (.string ⟨m.toArray⟩)).put 2 (.int .i64 k))
  have z0 := hp.cell 0
  have z1 := hp.cell 1
  have z2 := hp.cell 2
  refine bodyPost_ret (v := .tuple #[.agg #[.int .i64 5, .string ⟨m.toArray⟩, .int .i64 k], .int .i64 j, .bool ob]) (by simp [results, Tryd.results24, go_sem, z0, z1, z2]) rfl (HM.out _ ?_)
  exact ((((HH.out.1.setCell (p := ⟨w.heap.size + 1, 0, none⟩) (Nat.le_succ _) _).setCell (p := ⟨w.heap.size + 1, 1, none⟩) (Nat.le_succ _) _).setCell (p := ⟨w.heap.size, 0, none⟩) (Nat.le_refl _) _).setCell (p := ⟨w.heap.size, 1, none⟩) (Nat.le_refl _) _).setCell (p := ⟨w.heap.size, 2, none⟩) (Nat.le_refl _) _

set_option maxRecDepth 100000 in
set_option maxHeartbeats 1600000 in
theorem rNext_lit (P : Option Addr) (l : List UInt8) (c : Nat) (k : Nat) (w : World) (hy : Bys w w.heap.size P l) (hk : k < l.length) (hl : l.length ≤ 1048576) (hlc : l.length ≤ c) (hx : l[k] = 123) :
    Calls Tryd.prog 24 #[.slice P l.length c, .int .i64 k] w (NrPost w k (nextT l k)) := by
  have hbW : ∀ W, Below w.heap.size w W → Bys W W.heap.size P l := fun W hb => (hy.below hb).more hb.size
  have HS := Lib.hid (fun W (hb : Below w.heap.size w W) => rScanLiteral_any P l c k W (hbW W hb) hl hlc)
  obtain ⟨p, o, rfl, hpg, hc⟩ := hy (by omega)
  have hcx := hc k hk
  rw [hx, show (((123 : UInt8).toNat : Int)) = 123 from rfl] at hcx
  have hnx : nextT l k = (scanL l k).map fun x => (⟨6, x.1, k⟩, x.2) := by rw [nextT_at hk, hx]; rfl
  have HM := Lib.hid (fun w' (hb : Below w.heap.size w w') => NrPost.mk (k := k) (o := nextT l k) 6 (rdM (scanL l k)) (rdJ (scanL l k)) (scanL l k).isSome 6 (rdJ (scanL l k)) rfl rfl (by rw [hnx, Option.isSome_map]) (fun t i e => by
    rw [hnx, Option.map_eq_some_iff] at e
    obtain ⟨x, hx, e⟩ := e
    injection e with e1 e2
    subst e1 e2
    rw [hx]
    exact ⟨rfl, rfl, rfl⟩) hb)
  generalize nextT l k = r at HM ⊢
  have HP := Lib.hid (fun W (hb : Below w.heap.size w W) => (HS.out W hb).mono (fun e w' (hr : RetS W (scanL l k) e w') => hr.parts))
  generalize rdM (scanL l k) = m at HP HM
  generalize rdJ (scanL l k) = j at HP HM
  generalize (scanL l k).isSome = ob at HP HM
  have HCV : Hid (∀ (p1 : Option Addr) (c1 : Nat) (W : World), Buf W (w.heap.size + 2) 1 (.slice p1 m.length c1) m.length (Lib.byteCells m) → (convert 22 9 (.slice p1 m.length c1)).run Tryd.prog W = .ok (.string ⟨m.toArray⟩) W) := Lib.hid (fun p1 c1 W hW => by
    obtain ⟨p, c, e, _, hy⟩ := hW.bys
    injection e with e1 e2 e3
    subst e1
    exact conv_bys (P := Tryd.prog) hy c1 Tryd.underlying22 Tryd.underlying5 Tryd.underlying9)
  generalize m.length = ml at *
  have hi0 : (0 : Int) ≤ k := by omega
  have hi1 : (k : Int) < l.length := by omega
  have hkn : ((k : Int) == (l.length : Int)) = false := by rw [beq_eq_false_iff_ne]; omega
  clear hc hx hnx hk hlc hy HS hbW
  generalize l.length = n at *
  go_enter Tryd.func24, Tryd.ntmps24
  go_wp2_with fail
  refine (HP.out _ ?_).mono ?_
  · exact ((Below.refl _ _).alloc (Nat.le_refl _) _).alloc (by rw [World.size_alloc]; omega) _
  rintro e w1 ⟨p1, c1, rfl, hbf, hy1, hb⟩
  have hbW : Below w.heap.size w w1 := (((Below.refl _ _).alloc (Nat.le_refl _) _).alloc (by rw [World.size_alloc]; omega) _).trans (hb.mono (by simp only [World.size_alloc]; omega))
  have hb2 : Blk w1 w.heap.size 37 #[.int .i64 0, .string ⟨#[]⟩, .int .i64 0] := Blk.below (Blk.past (Blk.made _ _ _) _) hb (by simp only [World.size_alloc]; omega)
  have hb3 : Blk w1 (w.heap.size + 1) 37 #[.int .i64 0, .string ⟨#[]⟩, .int .i64 k] := by
    have := Blk.below (Blk.made (w.alloc (.cells #[.int .i64 0, .string ⟨#[]⟩, .int .i64 0] 37)) 37 #[.int .i64 0, .string ⟨#[]⟩, .int .i64 k]) hb (by simp only [World.size_alloc]; omega)
    rw [World.size_alloc] at this
    exact this
  have hbf2 : Buf w1 (w.heap.size + 2) 1 (.slice p1 ml c1) ml (Lib.byteCells m) := hbf.mono (by simp only [World.size_alloc]; omega)
  have hno := hbf2.own_ge
  have HH := Lib.hid (And.intro hbW (And.intro hb2 (And.intro hb3 (HCV.out p1 c1 _ (hbf2.far (p := ⟨w.heap.size + 1, 0, none⟩) (fun e => by have := hno _ e; dsimp only at this; omega) (.int .i64 6))))))
  have d0 : w1.cell? ⟨w.heap.size, 0, none⟩ = some (.int .i64 0) := by rw [hb2.cell]; rfl
  have d1 : w1.cell? ⟨w.heap.size, 1, none⟩ = some (.string ⟨#[]⟩) := by rw [hb2.cell]; rfl
  have d2 : w1.cell? ⟨w.heap.size, 2, none⟩ = some (.int .i64 0) := by rw [hb2.cell]; rfl
  have f0 := hb2.frz 0
  have f1 := hb2.frz 1
  have f2 := hb2.frz 2
  have x0 : w1.cell? ⟨w.heap.size + 1, 0, none⟩ = some (.int .i64 0) := by rw [hb3.cell]; rfl
  have x1 : w1.cell? ⟨w.heap.size + 1, 1, none⟩ = some (.string ⟨#[]⟩) := by rw [hb3.cell]; rfl
  have x2 : w1.cell? ⟨w.heap.size + 1, 2, none⟩ = some (.int .i64 k) := by rw [hb3.cell]; rfl
  have y0 := hb3.frz 0
  have y1 := hb3.frz 1
  have y2 := hb3.frz 2
  clear hb hbW hb2 hb3 hy1 hbf hbf2 hno
  go_wp2_with fail
  rw [HH.out.2.2.2]
  simp only [Result.andThen]
  rw [Oper.upon_value]
  go_wp2_with fail
  have hp := (((((HH.out.2.1.far (p := ⟨w.heap.size + 1, 0, none⟩) (Nat.ne_of_lt (Nat.lt_succ_self _)) (.int .i64 6)).far (p := ⟨w.heap.size + 1, 1, none⟩) (Nat.ne_of_lt (Nat.lt_succ_self _)) (.string ⟨m.toArray⟩)).put 0 (.int .i64 6)).put 1 (.string ⟨m.toArray⟩)).put 2 (.int .i64 k))
  have z0 := hp.cell 0
  have z1 := hp.cell 1
  have z2 := hp.cell 2
  refine bodyPost_ret (v := .tuple #[.agg #[.int .i64 6, .string ⟨m.toArray⟩, .int .i64 k], .int .i64 j, .bool ob]) (by simp [results, Tryd.results24, go_sem, z0, z1, z2]) rfl (HM.out _ ?_)
  exact ((((HH.out.1.setCell (p := ⟨w.heap.size + 1, 0, none⟩) (Nat.le_succ _) _).setCell (p := ⟨w.heap.size + 1, 1, none⟩) (Nat.le_succ _) _).setCell (p := ⟨w.heap.size, 0, none⟩) (Nat.le_refl _) _).setCell (p := ⟨w.heap.size, 1, none⟩) (Nat.le_refl _) _).setCell (p := ⟨w.heap.size, 2, none⟩) (Nat.le_refl _) _
end Go.Proofs.YtkifhgnoadmfkaaDoor
namespace Go.Proofs.YtkifhgnoadmfkaaDoor
open Go.RowKit

set_option maxRecDepth 100000 in
set_option maxHeartbeats 1600000 in
theorem rNext_word (P : Option Addr) (l : List UInt8) (c : Nat) (k : Nat) (w : World) (hy : Bys w w.heap.size P l) (hk : k < l.length) (hl : l.length ≤ 1048576) (hlc : l.length ≤ c) (q : l[k] ≠ 32 ∧ l[k] ≠ 40 ∧ l[k] ≠ 41 ∧ l[k] ≠ 34 ∧ l[k] ≠ 123) :
    Calls Tryd.prog 24 #[.slice P l.length c, .int .i64 k] w (NrPost w k (nextT l k)) := by
  have HYW := Lib.hid (fun W (hb : Below w.heap.size w W) => hy.below hb)
  obtain ⟨q1, q2, q3, q4, q5⟩ := q
  have hnx : nextT l k = if wordB l[k] then some (⟨4, (l.drop k).takeWhile wordB, k⟩, k + ((l.drop k).takeWhile wordB).length) else none := by
    rw [nextT_at hk, if_neg q1, if_neg q2, if_neg q3, if_neg q4, if_neg q5]
  obtain ⟨p, o, rfl, hpg, hc⟩ := hy (by omega)
  have hcx := hc k hk
  have e1 : ((l[k].toNat : Int) == 32) = false := u8_ne (v := 32) (by decide) q1
  have e2 : ((l[k].toNat : Int) == 40) = false := u8_ne (v := 40) (by decide) q2
  have e3 : ((l[k].toNat : Int) == 41) = false := u8_ne (v := 41) (by decide) q3
  have e4 : ((l[k].toNat : Int) == 34) = false := u8_ne (v := 34) (by decide) q4
  have e5 : ((l[k].toNat : Int) == 123) = false := u8_ne (v := 123) (by decide) q5
  have HM := Lib.hid (fun (j : Nat) w' (hj : WdAt l k j) (hs : ∀ hj : j < l.length, wordB l[j] = false) (hb : Below w.heap.size w w') => NrPost.mk (k := k) (o := nextT l k) 4 ((l.drop k).takeWhile wordB) j (decide (k < j)) 4 j rfl rfl (by
      have h2 := (hj.stop hs).2
      rw [hnx]
      by_cases hw : wordB l[k] = true
      · rw [if_pos hw]
        have hd := wd_len hk hw
        rw [decide_eq_true (by omega)]; rfl
      · rw [if_neg hw]
        have : ((l.drop k).takeWhile wordB).length = 0 := by
          rw [List.drop_eq_getElem_cons hk]
          simp [List.takeWhile, hw]
        rw [decide_eq_false (by omega)]; rfl) (fun t i e => by
    have h2 := (hj.stop hs).2
    have h1 := hj.1
    rw [hnx] at e
    split at e
    · injection e with e; injection e with e1 e2
      subst e1 e2
      exact ⟨rfl, rfl, by omega⟩
    · cases e) hb)
  have HC := Lib.hid hc
  generalize nextT l k = r at HM ⊢
  generalize (l[k].toNat : Int) = x0 at *
  have hi0 : (0 : Int) ≤ k := by omega
  have hi1 : (k : Int) < l.length := by omega
  have hkn : ((k : Int) == (l.length : Int)) = false := by rw [beq_eq_false_iff_ne]; omega
  obtain ⟨n, hn⟩ : ∃ n, l.length = n := ⟨_, rfl⟩
  have HN := Lib.hid hn
  have HW0 := Lib.hid (WdAt.start (Nat.le_of_lt hk))
  rw [hn] at hi1 hkn hlc hl ⊢
  clear hc hnx hy q1 q2 q3 q4 q5 hk hn
  go_enter Tryd.func24, Tryd.ntmps24
  go_wp2_with fail
  go_loop [14] (fun i => ∃ j : Nat, i = .int .i64 j ∧ WdAt l k j) (fun i => l.length - (intOf i).toNat)
  case atStart => exact ⟨k, rfl, HW0.out⟩
  case round =>
    obtain ⟨j, rfl, hj⟩ := hrel
    have HJ := Lib.hid hj
    have hjn : j ≤ n := by have := hj.2.1; have := HN.out; omega
    have hkj : k ≤ j := hj.1
    clear hj
    by_cases hjl : j < n
    · have hjl2 : j < l.length := by have := HN.out; omega
      have hcj := HC.out j hjl2
      obtain ⟨x, hx⟩ : ∃ x, l[j] = x := ⟨_, rfl⟩
      have HX := Lib.hid hx
      rw [hx] at hcj
      have hi2 : (0 : Int) ≤ j := by omega
      have hi3 : (j : Int) < n := by omega
      clear hx
      have HW := Lib.hid (fun W => rWordByte_any x W)
      cases hb : wordB x with
      | true =>
        rw [hb] at HW
        have HJ2 := Lib.hid (HJ.out.next hjl2 (by rw [HX.out]; exact hb))
        clear hb
        go_wp2_with fail
        refine (HW.out _).mono ?_
        rintro e w1 ⟨rfl, rfl⟩
        go_wp2_with fail
        go_round
        case rel => exact ⟨j + 1, by go_num, HJ2.out⟩
        case measure => simp [intOf]; omega
      | false =>
        rw [hb] at HW
        have HM2 := Lib.hid (fun w' => HM.out j w' HJ.out (fun _ => by rw [HX.out]; exact hb))
        obtain ⟨R1, R2⟩ := HJ.out.stop (fun _ => by rw [HX.out]; exact hb)
        clear hb
        obtain ⟨P2, hsl, hb2⟩ := cut_bytes (some ⟨p, o, none⟩) n c k j hkj hjn hlc
        have HCV : Hid (∀ W, Below w.heap.size w W → (convert 22 9 (.slice P2 (j - k) (c - k))).run Tryd.prog W = .ok (.string ⟨((l.drop k).takeWhile wordB).toArray⟩) W) := Lib.hid (fun W hW => by
          have h3 := conv_bys (P := Tryd.prog) (hb2 _ _ _ HN.out (HYW.out W hW)) (c - k) Tryd.underlying22 Tryd.underlying5 Tryd.underlying9
          rw [← R1, R2] at h3
          exact h3)
        clear R1 R2 hb2 hcx
        generalize (l.drop k).takeWhile wordB = T at HCV HM2
        go_wp2_with fail
        refine (HW.out _).mono ?_
        rintro e w1 ⟨rfl, rfl⟩
        go_wp2_with fail
        rw [HCV.out _ (((Below.refl _ _).alloc (Nat.le_refl _) _).alloc (by rw [World.size_alloc]; omega) _)]
        simp only [Result.andThen]
        rw [Oper.upon_value]
        go_wp2_with fail
        refine bodyPost_ret (v := .tuple #[.agg #[.int .i64 4, .string ⟨T.toArray⟩, .int .i64 k], .int .i64 j, .bool (decide (k < j))]) (by simp [results, Tryd.results24, go_sem]) rfl (HM2.out _ ?_)
        exact ((Below.refl _ _).alloc (Nat.le_refl _) _).alloc (by rw [World.size_alloc]; omega) _
    · have HM2 := Lib.hid (fun w' => HM.out j w' HJ.out (fun hj => by have := HN.out; omega))
      obtain ⟨R1, R2⟩ := HJ.out.stop (fun hj => by have := HN.out; omega)
      have hd : decide ((j : Int) < n) = false := decide_eq_false (by omega)
      have hd2 : decide (j < n) = false := decide_eq_false hjl
      obtain ⟨P2, hsl, hb2⟩ := cut_bytes (some ⟨p, o, none⟩) n c k j hkj hjn hlc
      have HCV : Hid (∀ W, Below w.heap.size w W → (convert 22 9 (.slice P2 (j - k) (c - k))).run Tryd.prog W = .ok (.string ⟨((l.drop k).takeWhile wordB).toArray⟩) W) := Lib.hid (fun W hW => by
        have h3 := conv_bys (P := Tryd.prog) (hb2 _ _ _ HN.out (HYW.out W hW)) (c - k) Tryd.underlying22 Tryd.underlying5 Tryd.underlying9
        rw [← R1, R2] at h3
        exact h3)
      clear R1 R2 hb2 hcx
      generalize (l.drop k).takeWhile wordB = T at HCV HM2
      go_wp2_with fail
      rw [HCV.out _ (((Below.refl _ _).alloc (Nat.le_refl _) _).alloc (by rw [World.size_alloc]; omega) _)]
      simp only [Result.andThen]
      rw [Oper.upon_value]
      go_wp2_with fail
      refine bodyPost_ret (v := .tuple #[.agg #[.int .i64 4, .string ⟨T.toArray⟩, .int .i64 k], .int .i64 j, .bool (decide (k < j))]) (by simp [results, Tryd.results24, go_sem]) rfl (HM2.out _ ?_)
      exact ((Below.refl _ _).alloc (Nat.le_refl _) _).alloc (by rw [World.size_alloc]; omega) _

theorem rNext_any (P : Option Addr) (l : List UInt8) (c : Nat) (k : Nat) (w : World) (hy : Bys w w.heap.size P l) (hk : k ≤ l.length) (hl : l.length ≤ 1048576) (hlc : l.length ≤ c) :
    Calls Tryd.prog 24 #[.slice P l.length c, .int .i64 k] w (NrPost w k (nextT l k)) := by
  rcases Nat.lt_or_ge k l.length with hk2 | hk2
  · by_cases h1 : l[k] = 32
    · exact rNext_sp P l c k w hy hk2 hl hlc h1
    by_cases h2 : l[k] = 40
    · exact rNext_op P l c k w hy hk2 hl hlc h2
    by_cases h3 : l[k] = 41
    · exact rNext_cl P l c k w hy hk2 hl hlc h3
    by_cases h4 : l[k] = 34
    · exact rNext_quo P l c k w hy hk2 hl hlc h4
    by_cases h5 : l[k] = 123
    · exact rNext_lit P l c k w hy hk2 hl hlc h5
    exact rNext_word P l c k w hy hk2 hl hlc ⟨h1, h2, h3, h4, h5⟩
  · obtain rfl : k = l.length := by omega
    exact rNext_end P l c w
end Go.Proofs.YtkifhgnoadmfkaaDoor
namespace Go.Proofs.YtkifhgnoadmfkaaDoor
open Go.RowKit

theorem infoRTk : (Tryd.prog.info? 37).map (fun i => (i.zero, i.size, i.bytes)) = some (some (.agg #[.int .i64 0, .string ⟨#[]⟩, .int .i64 0]), 3, 32) := by kernel_rfl
/-- The relation of the reference's loop. -/
def RTkRel (w0 : World) (l : List UInt8) (R : List Tok ⊕ Nat) (out a : Value) (wr : World) : Prop :=
  ∃ (k : Nat) (ts : List Tok) (A : Option Addr) (cap : Nat), out = .slice A ts.length cap ∧ a = .int .i64 k ∧ TkAt l k ts R ∧ Buf wr w0.heap.size 3 (.slice A ts.length cap) ts.length (tokCells ts) ∧ Below w0.heap.size w0 wr

set_option maxRecDepth 100000 in
set_option maxHeartbeats 1600000 in
theorem rTokens_any (P : Option Addr) (l : List UInt8) (c : Nat) (w : World) (hy : Bys w w.heap.size P l) (hl : l.length ≤ 1048575) (hlc : l.length ≤ c) :
    Calls Tryd.prog 12 #[.slice P l.length c] w (TkPost w (tokens l)) := by
  have HN := Lib.hid (fun (k : Nat) W (hb : Below w.heap.size w W) (hk : k ≤ l.length) => rNext_any P l c k W ((hy.below hb).more hb.size) hk (by omega) hlc)
  have HT := Lib.hid (TkAt.start l)
  generalize tokens l = R at HT ⊢
  obtain ⟨n, hn⟩ : ∃ n, l.length = n := ⟨_, rfl⟩
  have HL := Lib.hid hn
  rw [hn]
  rw [hn] at hl hlc
  clear hy hn
  go_enter Tryd.func12, Tryd.ntmps12
  go_wp2_with fail
  go_loopw [4, 5] (fun out a wr => RTkRel w l R out a wr) (fun _ a _ => l.length - (intOf a).toNat)
  case atStart => exact ⟨0, [], none, 0, rfl, rfl, HT.out, Buf.nil _ _ _, Below.refl _ _⟩
  case round =>
    obtain ⟨k, ts, A, cap, rfl, rfl, htk, hbuf, hw⟩ := hrel
    have hkl : k ≤ n := by have := htk.1; have := HL.out; omega
    have hts : ts.length ≤ k := htk.2.1
    have HNX := Lib.hid (HN.out k wr hw htk.1)
    rw [HL.out] at HNX
    have HH := Lib.hid (And.intro htk (And.intro hbuf hw))
    have HO := Lib.hid hbuf.own_ge
    have hws : w.heap.size ≤ wr.heap.size := hw.size
    clear htk hbuf hw
    cases hn : nextT l k with
    | none =>
      rw [hn] at HNX
      have R1 := Lib.hid (HH.out.1.bad hn)
      clear hn
      go_wp2_with fail
      refine HNX.out.mono ?_
      rintro e w1 ⟨kind, text, j, rfl, hb1, -⟩
      have HB := Lib.hid (HH.out.2.2.trans (hb1.mono hws))
      clear hb1
      go_wp2_with fail
      go_ret2
      refine ⟨.slice none 0 0, by rw [R1.out]; rfl, ?_, ?_⟩
      · rw [R1.out]; exact Buf.nil _ _ _
      · exact HB.out.alloc HB.out.size _
    | some x =>
      obtain ⟨⟨kind, text, at0⟩, j⟩ := x
      rw [hn] at HNX
      have hs := nextT_some (by rw [HL.out]; exact hkl) hn
      obtain rfl : at0 = k := hs.1
      have hs2 := hs.2
      dsimp only at hs2
      by_cases h0 : kind = 0
      · subst h0
        have R1 := Lib.hid (HH.out.1.last hn rfl)
        clear hn hs
        go_wp2_with fail
        refine HNX.out.mono ?_
        rintro e w1 ⟨kind2, text2, j2, rfl, hb1, hpt⟩
        obtain ⟨rfl, rfl, rfl⟩ := hpt _ _ rfl
        dsimp only
        have HB := Lib.hid (HH.out.2.2.trans (hb1.mono hws))
        have hbuf0 := HH.out.2.1.below hb1 (Nat.le_refl _)
        have hol := hbuf0.own_lt
        have hws1 : w.heap.size ≤ w1.heap.size := HB.out.size
        have hbuf1 := hbuf0.past (.cells #[.int .i64 ((0 : Nat) : Int), .string ⟨text2.toArray⟩, .int .i64 (at0 : Int)] 37)
        obtain ⟨v', w', hrun, hbuf', hgr⟩ := tk_app Tryd.underlying30 infoRTk hbuf1 (by rw [World.size_alloc]; omega) (by omega) ⟨0, text2, at0⟩
        rw [World.size_alloc] at hrun
        have HB2 := Lib.hid (HB.out.alloc hws1 (.cells #[.int .i64 ((0 : Nat) : Int), .string ⟨text2.toArray⟩, .int .i64 (at0 : Int)] 37))
        have HF := Lib.hid (And.intro hbuf' (HB2.out.grown hgr (by rw [World.size_alloc]; omega) (fun j hj => HO.out j hj)))
        have HR := Lib.hid hrun
        have hbk : Blk w' w1.heap.size 37 #[.int .i64 ((0 : Nat) : Int), .string ⟨text2.toArray⟩, .int .i64 (at0 : Int)] := (hgr.block w1.heap.size (by rw [World.size_alloc]; omega) (fun e => by have := hol _ e.symm; omega)).trans (heap_alloc_new w1 _)
        have d0 : w'.cell? ⟨w1.heap.size, 0, none⟩ = some (.int .i64 ((0 : Nat) : Int)) := by rw [hbk.cell]; rfl
        obtain ⟨A2, cap2, rfl, -, -⟩ := hbuf'.src (tokCells_one _)
        clear hrun hbuf' hgr hbuf1 hb1 hpt hbuf0 hol hbk
        rw [show (((0 : Nat) : Int)) = 0 from rfl] at *
        go_wp2_with (at_builtin; refine wpList_append_run _ rfl (.tmp 19) (.tmp 21) _ _ rfl _ _ rfl rfl _ _ HR.out ?_)
        go_ret2
        refine ⟨.slice A2 (ts.length + 1) cap2, by rw [R1.out]; rfl, ?_, ?_⟩
        · rw [R1.out]
          simpa only [List.length_append, List.length_singleton, lstT] using HF.out.1
        · exact HF.out.2
      · rcases hs2 with hs2 | hs2
        · exact absurd hs2.1 h0
        have hj1 : at0 < j := hs2.2.2.1
        have hj2 : j ≤ l.length := hs2.2.2.2.1
        clear hs2
        have R1 := Lib.hid (HH.out.1.next hn h0)
        clear hn hs
        have hk0 : ((kind : Int) == 0) = false := by rw [beq_eq_false_iff_ne]; omega
        go_wp2_with fail
        refine HNX.out.mono ?_
        rintro e w1 ⟨kind2, text2, j2, rfl, hb1, hpt⟩
        obtain ⟨rfl, rfl, rfl⟩ := hpt _ _ rfl
        dsimp only
        have HB := Lib.hid (HH.out.2.2.trans (hb1.mono hws))
        have hbuf0 := HH.out.2.1.below hb1 (Nat.le_refl _)
        have hol := hbuf0.own_lt
        have hws1 : w.heap.size ≤ w1.heap.size := HB.out.size
        have hbuf1 := hbuf0.past (.cells #[.int .i64 (kind2 : Int), .string ⟨text2.toArray⟩, .int .i64 (at0 : Int)] 37)
        obtain ⟨v', w', hrun, hbuf', hgr⟩ := tk_app Tryd.underlying30 infoRTk hbuf1 (by rw [World.size_alloc]; omega) (by omega) ⟨kind2, text2, at0⟩
        rw [World.size_alloc] at hrun
        have HB2 := Lib.hid (HB.out.alloc hws1 (.cells #[.int .i64 (kind2 : Int), .string ⟨text2.toArray⟩, .int .i64 (at0 : Int)] 37))
        have HF := Lib.hid (And.intro hbuf' (HB2.out.grown hgr (by rw [World.size_alloc]; omega) (fun j hj => HO.out j hj)))
        have HR := Lib.hid hrun
        have hbk : Blk w' w1.heap.size 37 #[.int .i64 (kind2 : Int), .string ⟨text2.toArray⟩, .int .i64 (at0 : Int)] := (hgr.block w1.heap.size (by rw [World.size_alloc]; omega) (fun e => by have := hol _ e.symm; omega)).trans (heap_alloc_new w1 _)
        have d0 : w'.cell? ⟨w1.heap.size, 0, none⟩ = some (.int .i64 (kind2 : Int)) := by rw [hbk.cell]; rfl
        obtain ⟨A2, cap2, rfl, -, -⟩ := hbuf'.src (tokCells_one _)
        clear hrun hbuf' hgr hbuf1 hb1 hpt hbuf0 hol hbk
        go_wp2_with (at_builtin; refine wpList_append_run _ rfl (.tmp 19) (.tmp 21) _ _ rfl _ _ rfl rfl _ _ HR.out ?_)
        go_roundw
        case rel =>
          exact ⟨_, _, A2, cap2, by simp only [List.length_append, List.length_singleton], rfl, R1.out, HF.out.1, HF.out.2⟩
        case measure => simp [intOf]; omega
end Go.Proofs.YtkifhgnoadmfkaaDoor
