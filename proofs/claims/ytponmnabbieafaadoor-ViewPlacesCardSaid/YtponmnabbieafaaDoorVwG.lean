/- ViewRules: the law's own walk; the plain law of a client that follows. -/
import Derived.Test.YtponmnabbieafaaDoorVwF
set_option linter.unusedVariables false
set_option linter.unusedSimpArgs false
namespace Go.Proofs.YtponmnabbieafaaDoor
open Go Go.RowKit Go.Shelf Go.Lib Go.Sort

set_option maxRecDepth 100000 in
set_option maxHeartbeats 3200000 in
theorem viewRules_walk (n : Nat) (k x st it fl ui sz : Int) (tg tx : ByteArray) (P : Option Addr) (bl cv : Nat) (w : World) (hn : n < 65536) (hx : 0 ≤ x ∧ x < 4294967296) :
    Calls Tryd.prog 4 #[.int .u16 n, .agg #[.int .i64 k, .int .u32 x, .string tg, .int .i64 st, .string tx, .int .i64 it, .int .u8 fl, .int .u32 ui, .int .u32 sz, .slice P bl cv]] w fun e w' => e = .returned (.bool true) ∧ Below w.heap.size w w' := by
  have HF := Lib.hid (fun W => follow_any n k x st it fl ui sz tg tx P bl cv W (by omega) hx)
  have HR := Lib.hid (fun W => rfollow_any n k x st it fl ui sz tg tx P bl cv W (by omega) hx)
  have HA := Lib.hid (fun W => alive_any W)
  have hw : IntKind.i64.wrap (n : Int) = n := by simp [IntKind.wrap, IntKind.bits, IntKind.signed]; omega
  obtain ⟨a, ha⟩ : ∃ a, (folI n k x).1 = a := ⟨_, rfl⟩
  obtain ⟨b, hb⟩ : ∃ b, (folI n k x).2 = b := ⟨_, rfl⟩
  rw [ha, hb] at HF HR
  have hb0 : Below w.heap.size w (w.alloc (.cells #[.int .i64 k, .int .u32 x, .string tg, .int .i64 st, .string tx, .int .i64 it, .int .u8 fl, .int .u32 ui, .int .u32 sz, .slice P bl cv] 34)) := (Below.refl _ w).alloc (Nat.le_refl _) _
  have kr := Blk.made w 34 #[.int .i64 k, .int .u32 x, .string tg, .int .i64 st, .string tx, .int .i64 it, .int .u8 fl, .int .u32 ui, .int .u32 sz, .slice P bl cv]
  have H0 := Lib.hid (And.intro hb0 kr)
  clear ha hb hb0 kr hn hx
  go_enter Tryd.func4, Tryd.ntmps4
  go_wp2_with fail
  refine (HF.out _).mono ?_
  rintro e w1 ⟨rfl, hb1⟩
  have H1 := Lib.hid (And.intro (H0.out.1.trans (hb1.mono H0.out.1.size)) (H0.out.2.below hb1 H0.out.2.lt))
  obtain ⟨⟨c0, c1, c2, c3, c4, c5, c6, c7, c8, c9⟩, -⟩ := Blk.ten H1.out.2
  clear hb1
  go_wp2_with fail
  refine (HR.out _).mono ?_
  rintro e w2 ⟨rfl, hb2⟩
  have H2 := Lib.hid (H1.out.1.trans (hb2.mono H1.out.1.size))
  clear hb2
  go_wp2_with fail
  refine (HA.out _).mono ?_
  rintro e w3 ⟨rfl, hb3⟩
  have H3 := Lib.hid (H2.out.trans (hb3.mono H2.out.size))
  clear hb3
  go_wp2_with fail
  go_ret
  exact ⟨by first | rfl | (simp; done), H3.out⟩

/-- A client that follows. -/
def cliL (n : Int) : List Rp → Int × Bool
  | [] => (n, true)
  | r :: l => if (folI n r.kind (r.n : Nat)).2 then cliL (folI n r.kind (r.n : Nat)).1 l else ((folI n r.kind (r.n : Nat)).1, false)
theorem cli_app (n c : Int) (a b : List Rp) (h : cliL n a = (c, true)) : cliL n (a ++ b) = cliL c b := by
  induction a generalizing n with
  | nil =>
    have e : n = c := by simpa [cliL] using h
    rw [e]; rfl
  | cons r a ih =>
    by_cases h1 : (folI n r.kind (r.n : Nat)).2 = true
    · have e1 : cliL n (r :: a) = cliL (folI n r.kind (r.n : Nat)).1 a := by simp [cliL, h1]
      have e2 : cliL n (r :: (a ++ b)) = cliL (folI n r.kind (r.n : Nat)).1 (a ++ b) := by simp [cliL, h1]
      rw [List.cons_append, e2]
      exact ih _ (e1 ▸ h)
    · have e1 : cliL n (r :: a) = ((folI n r.kind (r.n : Nat)).1, false) := by simp [cliL, h1]
      rw [e1] at h
      exact absurd (congrArg Prod.snd h) (by simp)
theorem cli_one (n : Int) (r : Rp) : cliL n [r] = folI n r.kind (r.n : Nat) := by
  by_cases h1 : (folI n r.kind (r.n : Nat)).2 = true
  · have : cliL n [r] = ((folI n r.kind (r.n : Nat)).1, true) := by simp [cliL, h1]
    rw [this, ← h1]
  · have h2 : (folI n r.kind (r.n : Nat)).2 = false := by simpa using h1
    have : cliL n [r] = ((folI n r.kind (r.n : Nat)).1, false) := by simp [cliL, h1]
    rw [this, ← h2]
theorem cli_pre (n f : Int) : ∀ (L : List Rp), cliL n L = (f, true) → ∀ k, ∃ c, cliL n (L.take k) = (c, true)
  | [], _, k => ⟨n, by simp [cliL]⟩
  | r :: L, h, 0 => ⟨n, rfl⟩
  | r :: L, h, k + 1 => by
    by_cases h1 : (folI n r.kind (r.n : Nat)).2 = true
    · have e1 : cliL n (r :: L) = cliL (folI n r.kind (r.n : Nat)).1 L := by simp [cliL, h1]
      obtain ⟨c, hc⟩ := cli_pre _ f L (e1 ▸ h) k
      exact ⟨c, by rw [List.take_succ_cons]; simp only [cliL, h1, if_true]; exact hc⟩
    · have e1 : cliL n (r :: L) = ((folI n r.kind (r.n : Nat)).1, false) := by simp [cliL, h1]
      rw [e1] at h
      exact absurd (congrArg Prod.snd h) (by simp)
theorem cli_step {n0 c : Int} {s : VSt} (h : cliL n0 s.2 = (c, true)) (h1 : 0 ≤ c ∧ c ≤ s.1.1.length) (h2 : s.1.2 = false → c = s.1.1.length) (e : Ev) :
    ∃ c', cliL n0 (evP s e).2 = (c', true) ∧ (0 ≤ c' ∧ c' ≤ (evP s e).1.1.length) ∧ ((evP s e).1.2 = false → c' = (evP s e).1.1.length) := by
  obtain ⟨⟨vl, g⟩, so⟩ := s
  dsimp only at h h1 h2
  by_cases k1 : e.kind = 1
  · have e1 : evP ((vl, g), so) e = ((if appB vl e.uid then vl ++ [(e.uid : Int)] else vl, g || appB vl e.uid), so) := by unfold evP; rw [if_pos k1]
    rw [e1]
    refine ⟨c, h, ?_, ?_⟩
    · cases appB vl e.uid <;> simp <;> omega
    · cases hab : appB vl e.uid
      · cases g
        · intro _; simpa using h2 rfl
        · intro hh; simp at hh
      · intro hh; simp at hh
  · have e1 : evP ((vl, g), so) e = ((if e.kind = 2 then cutU vl e.uid else vl, false), (tellV ((vl, g), so)).2 ++ evV vl e) := by unfold evP; rw [if_neg k1]
    have ht : cliL n0 (tellV ((vl, g), so)).2 = ((vl.length : Int), true) := by
      unfold tellV
      dsimp only
      cases g with
      | false =>
        rw [if_neg Bool.false_ne_true, List.append_nil, h, h2 rfl]
      | true =>
        rw [if_pos rfl, cli_app n0 c so _ h, cli_one]
        unfold cntR folI
        simp only [if_true]
        rw [Int.max_eq_right h1.2, decide_eq_true h1.2]
    rw [e1, cli_app n0 _ _ _ ht]
    have hp := posU_len vl e.uid
    by_cases k2 : e.kind = 2
    · unfold evV
      rw [if_pos k2, if_pos k2]
      unfold cutU
      by_cases hp0 : 0 < posU vl e.uid
      · rw [if_pos hp0, if_pos hp0, cli_one]
        have hf : folI (vl.length : Int) 3 (posU vl e.uid : Nat) = ((vl.length : Int) - 1, true) := by
          unfold folI
          rw [if_neg (by decide), if_pos rfl, if_pos (by omega)]
        have hlen : (vl.eraseIdx (posU vl e.uid - 1)).length = vl.length - 1 := by rw [List.length_eraseIdx, if_pos (by omega)]
        refine ⟨(vl.length : Int) - 1, hf, ?_, fun _ => ?_⟩
        · dsimp only; rw [hlen]; omega
        · dsimp only; rw [hlen]; omega
      · rw [if_neg hp0, if_neg hp0]
        exact ⟨vl.length, rfl, ⟨by omega, Int.le_refl _⟩, fun _ => rfl⟩
    · rw [if_neg k2]
      by_cases k3 : e.kind = 3
      · unfold evV
        rw [if_neg k2, if_pos k3]
        by_cases hp0 : 0 < posU vl e.uid
        · rw [if_pos hp0, cli_one]
          have hf : folI (vl.length : Int) 4 (posU vl e.uid : Nat) = ((vl.length : Int), true) := by
            unfold folI
            rw [if_neg (by decide), if_neg (by decide), if_pos rfl, decide_eq_true (by omega)]
          exact ⟨vl.length, hf, ⟨by omega, Int.le_refl _⟩, fun _ => rfl⟩
        · rw [if_neg hp0]
          exact ⟨vl.length, rfl, ⟨by omega, Int.le_refl _⟩, fun _ => rfl⟩
      · unfold evV
        rw [if_neg k2, if_neg k3]
        exact ⟨vl.length, rfl, ⟨by omega, Int.le_refl _⟩, fun _ => rfl⟩
theorem cli_run {n0 c : Int} (l : List Ev) : ∀ {s : VSt}, cliL n0 s.2 = (c, true) → (0 ≤ c ∧ c ≤ s.1.1.length) → (s.1.2 = false → c = s.1.1.length) →
    ∃ c', cliL n0 (runV s l).2 = (c', true) ∧ (0 ≤ c' ∧ c' ≤ (runV s l).1.1.length) ∧ ((runV s l).1.2 = false → c' = (runV s l).1.1.length) := by
  induction l generalizing c with
  | nil => intro s h h1 h2; exact ⟨c, h, h1, h2⟩
  | cons e l ih =>
    intro s h h1 h2
    obtain ⟨c1, g, g1, g2⟩ := cli_step h h1 h2 e
    exact ih (s := evP s e) g g1 g2
theorem cli_apply (vl : List Int) (E : List Ev) : cliL (vl.length : Nat) (applyV (vl, false) E).2 = ((((applyV (vl, false) E).1.1.length : Nat) : Int), true) := by
  obtain ⟨c, h, h1, h2⟩ := cli_run (n0 := (vl.length : Nat)) (c := (vl.length : Nat)) E (s := ((vl, false), [])) rfl ⟨by omega, Int.le_refl _⟩ (fun _ => rfl)
  unfold applyV tellV
  dsimp only
  cases hg : (runV ((vl, false), []) E).1.2 with
  | false =>
    rw [if_neg Bool.false_ne_true, List.append_nil, h, h2 hg]
  | true =>
    rw [if_pos rfl, cli_app _ c _ _ h, cli_one]
    unfold cntR folI
    simp only [if_true]
    rw [Int.max_eq_right h1.2, decide_eq_true h1.2]
theorem evP_small {N : Nat} {s : VSt} (h : ∀ r ∈ s.2, r.n ≤ N) (hs : s.1.1.length ≤ N) (e : Ev) : ∀ r ∈ (evP s e).2, r.n ≤ N := by
  unfold evP
  split
  · exact h
  · intro r hr
    have hp := posU_len s.1.1 e.uid
    simp only [tellV, evV, List.mem_append] at hr
    rcases hr with (hr | hr) | hr
    · exact h r hr
    · split at hr
      · rw [List.mem_singleton] at hr; subst hr; exact hs
      · cases hr
    · split at hr
      · split at hr
        · rw [List.mem_singleton] at hr; subst hr; show posU s.1.1 e.uid ≤ N; omega
        · cases hr
      · split at hr
        · split at hr
          · rw [List.mem_singleton] at hr; subst hr; show posU s.1.1 e.uid ≤ N; omega
          · cases hr
        · cases hr
theorem runV_small {N : Nat} (l : List Ev) : ∀ {s : VSt}, (∀ r ∈ s.2, r.n ≤ N) → s.1.1.length + l.length ≤ N → ∀ r ∈ (runV s l).2, r.n ≤ N := by
  induction l with
  | nil => intro s h _; exact h
  | cons e l ih =>
    intro s h hs
    simp only [List.length_cons] at hs
    have := evP_len s e
    exact ih (s := evP s e) (evP_small h (by omega) e) (by omega)
theorem apply_small {N : Nat} (vl : List Int) (E : List Ev) (ha : asc vl) (h : vl.length + E.length ≤ N) : (∀ r ∈ (applyV (vl, false) E).2, r.n ≤ N) ∧ (applyV (vl, false) E).2.length ≤ 2 * E.length + 1 ∧ (applyV (vl, false) E).1.1.length ≤ N := by
  have h1 := runV_small (N := N) E (s := ((vl, false), [])) (by simp) h
  obtain ⟨h2, h3, h4⟩ := runV_facts (s := ((vl, false), [])) ha E
  refine ⟨fun r hr => ?_, ?_, ?_⟩
  · unfold applyV tellV at hr
    rw [List.mem_append] at hr
    rcases hr with hr | hr
    · exact h1 r hr
    · split at hr
      · rw [List.mem_singleton] at hr; subst hr; show (runV ((vl, false), []) E).1.1.length ≤ N; simp only at h3; omega
      · cases hr
  · unfold applyV tellV
    rw [List.length_append]
    have h5 : (if (runV ((vl, false), []) E).1.2 then [cntR (runV ((vl, false), []) E).1.1] else []).length ≤ 1 := by split <;> simp
    simp only [List.length_nil] at h4
    omega
  · unfold applyV tellV
    simp only at h3 ⊢
    omega
theorem folI_bound {N n k x : Int} (h : 0 ≤ n ∧ n ≤ N) (hx : 0 ≤ x ∧ x ≤ N) : 0 ≤ (folI n k x).1 ∧ (folI n k x).1 ≤ N := by
  unfold folI
  split
  · dsimp only; omega
  · split
    · split
      · dsimp only; omega
      · exact h
    · split
      · exact h
      · exact h
end Go.Proofs.YtponmnabbieafaaDoor
