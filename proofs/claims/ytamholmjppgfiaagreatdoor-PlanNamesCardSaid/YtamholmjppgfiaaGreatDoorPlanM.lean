/- PlanNames: names of locks, the law's own walk. PlanNames: the law's own walk. -/
import Derived.Test.YtamholmjppgfiaaGreatDoorPlanD
import Derived.Test.YtamholmjppgfiaaGreatDoorE
import Derived.Laws.ResultCell
set_option linter.unusedVariables false
set_option linter.unusedSimpArgs false
namespace Go.Proofs.YtamholmjppgfiaaGreatDoor
open Go Go.RowKit Go.Shelf Go.Lib Go.Sort

theorem itoa_small (n : Nat) (hn : n < 100) (w : World) : Calls Tryz.prog 13 #[.int .i64 n] w fun e w' => e = .returned (.string (ofL (Lib.decDigits n))) ∧ w = w' := by
  have hnI : (n : Int) < 100 := by omega
  have h0I : (0 : Int) ≤ n := by omega
  have HS := Lib.hid (show ∀ W, Calls Tryz.prog 32 #[.int .i64 n] W fun e w' => e = .returned (.string (ofL (Lib.decDigits n))) ∧ w' = W from fun W => Tryz.internal_strconv_small n hn W)
  generalize hx : ofL (Lib.decDigits n) = x at HS
  have HX := Lib.hid hx
  clear hx hn
  have hF : Calls Tryz.prog 22 #[.int .i64 n, .int .i64 10] w fun e w' => e = .returned (.string x) ∧ w = w' := by
    go_enter Tryz.func22, Tryz.ntmps22
    go_wp2_with (go_at_call 32; refine (HS.out _).mono ?_; rintro e w' ⟨rfl, rfl⟩)
    go_ret
    exact ⟨rfl, rfl⟩
  have HF := Lib.hid hF
  clear hF HS
  have hI : Calls Tryz.prog 18 #[.int .i64 n] w fun e w' => e = .returned (.string x) ∧ w = w' := by
    go_enter Tryz.func18, Tryz.ntmps18
    go_wp2_with (go_at_call 22; refine HF.out.mono ?_; rintro e w' ⟨rfl, rfl⟩)
    go_ret
    exact ⟨rfl, rfl⟩
  have HI := Lib.hid hI
  clear hI HF
  go_enter Tryz.func13, Tryz.ntmps13
  go_wp2_with (go_at_call 18; refine HI.out.mono ?_; rintro e w' ⟨rfl, rfl⟩)
  go_ret
  exact ⟨rfl, rfl⟩

/-- The name of a lock. -/
def nameS (st ss : Nat) (lock : Int) : ByteArray :=
  if lock < 0 ∨ (1 + st + ss : Int) ≤ lock then ⟨#[]⟩ else if lock = 0 then ⟨#[105, 110, 100, 101, 120]⟩
  else if lock < 1 + (st : Int) then (⟨#[115, 116, 114, 105, 112, 101, 32]⟩ : ByteArray) ++ ofL (Lib.decDigits (lock.toNat - 1)) else (⟨#[113, 117, 101, 117, 101, 32]⟩ : ByteArray) ++ ofL (Lib.decDigits (lock.toNat - 1 - st))
theorem dec_small (n : Nat) (hn : n < 100) : (ofL (Lib.decDigits n)).size ≤ 2 := by
  have h : ∀ i : Fin 100, (Lib.decDigits i.val).length ≤ 2 := by decide +kernel
  rw [ofL_size]
  exact h ⟨n, hn⟩
theorem lt_wrap (x : Int) (h : -9223372036854775808 ≤ x ∧ x ≤ 9223372036854775807) : IntKind.i64.wrap x = x := by simp [IntKind.wrap, IntKind.bits, IntKind.signed]; omega
theorem lt_wrap32 (x : Int) (h : 0 ≤ x ∧ x < 4294967296) : IntKind.u32.wrap x = x := by show x % 4294967296 = x; omega

set_option maxRecDepth 100000 in
set_option maxHeartbeats 3200000 in
theorem name_neg (st ss : Nat) (hst : st ≤ 50) (hss : ss ≤ 50) (lock : Int) (h : lock < 0) (w : World) :
    Calls Tryz.prog 7 #[.agg #[.int .i64 (st : Nat), .int .i64 (ss : Nat)], .int .i64 lock] w fun e w' => e = .returned (.string ⟨#[]⟩) ∧ Below w.heap.size w w' := by
  have hqI : 0 ≤ (st : Int) ∧ (st : Int) ≤ 100 := by omega
  have hsI : 0 ≤ (ss : Int) ∧ (ss : Int) ≤ 100 := by omega
  have HQ := Lib.hid (fun W => queues_any (st : Int) (ss : Int) hqI W)
  have HC := Lib.hid (fun W => count_any (st : Int) (ss : Int) hqI hsI W)
  have hb0 : Below w.heap.size w (w.alloc (.cells #[.int .i64 (st : Nat), .int .i64 (ss : Nat)] 24)) := (Below.refl _ w).alloc (Nat.le_refl _) _
  have hblk := Blk.made w 24 #[.int .i64 (st : Nat), .int .i64 (ss : Nat)]
  have HB := Lib.hid (And.intro hb0 hblk)
  clear hb0
  have hd : decide (lock < 0) = true := decide_eq_true h
  clear hqI hsI hst hss
  have c0 : (w.alloc (.cells #[.int .i64 (st : Nat), .int .i64 (ss : Nat)] 24)).cell? ⟨w.heap.size, 0, none⟩ = some (.int .i64 (st : Nat)) := hblk.cell 0
  have c1 : (w.alloc (.cells #[.int .i64 (st : Nat), .int .i64 (ss : Nat)] 24)).cell? ⟨w.heap.size, 1, none⟩ = some (.int .i64 (ss : Nat)) := hblk.cell 1
  clear hblk
  go_enter Tryz.func7, Tryz.ntmps7
  go_wp2_with fail
  refine (HQ.out _).mono ?_
  rintro e w1 ⟨rfl, hb1⟩
  have H1 := Lib.hid (And.intro (HB.out.1.trans (hb1.mono HB.out.1.size)) (HB.out.2.below hb1 HB.out.2.lt))
  have d0 : w1.cell? ⟨w.heap.size, 0, none⟩ = some (.int .i64 (st : Nat)) := H1.out.2.cell 0
  have d1 : w1.cell? ⟨w.heap.size, 1, none⟩ = some (.int .i64 (ss : Nat)) := H1.out.2.cell 1
  clear hb1 c0 c1
  go_wp2_with fail
  go_ret
  exact ⟨rfl, H1.out.1⟩

set_option maxRecDepth 100000 in
set_option maxHeartbeats 3200000 in
theorem name_big (st ss : Nat) (hst : st ≤ 50) (hss : ss ≤ 50) (lock : Int) (h : (1 + st + ss : Int) ≤ lock) (w : World) :
    Calls Tryz.prog 7 #[.agg #[.int .i64 (st : Nat), .int .i64 (ss : Nat)], .int .i64 lock] w fun e w' => e = .returned (.string ⟨#[]⟩) ∧ Below w.heap.size w w' := by
  have hqI : 0 ≤ (st : Int) ∧ (st : Int) ≤ 100 := by omega
  have hsI : 0 ≤ (ss : Int) ∧ (ss : Int) ≤ 100 := by omega
  have HQ := Lib.hid (fun W => queues_any (st : Int) (ss : Int) hqI W)
  have HC := Lib.hid (fun W => count_any (st : Int) (ss : Int) hqI hsI W)
  have hb0 : Below w.heap.size w (w.alloc (.cells #[.int .i64 (st : Nat), .int .i64 (ss : Nat)] 24)) := (Below.refl _ w).alloc (Nat.le_refl _) _
  have hblk := Blk.made w 24 #[.int .i64 (st : Nat), .int .i64 (ss : Nat)]
  have HB := Lib.hid (And.intro hb0 hblk)
  clear hb0
  have hn : ¬ (lock < 0) := by omega
  have hnd : decide (lock < 0) = false := decide_eq_false hn
  have hd : decide ((1 : Int) + st + ss ≤ lock) = true := decide_eq_true h
  clear hqI hsI hst hss
  have c0 : (w.alloc (.cells #[.int .i64 (st : Nat), .int .i64 (ss : Nat)] 24)).cell? ⟨w.heap.size, 0, none⟩ = some (.int .i64 (st : Nat)) := hblk.cell 0
  have c1 : (w.alloc (.cells #[.int .i64 (st : Nat), .int .i64 (ss : Nat)] 24)).cell? ⟨w.heap.size, 1, none⟩ = some (.int .i64 (ss : Nat)) := hblk.cell 1
  clear hblk
  go_enter Tryz.func7, Tryz.ntmps7
  go_wp2_with fail
  refine (HQ.out _).mono ?_
  rintro e w1 ⟨rfl, hb1⟩
  have H1 := Lib.hid (And.intro (HB.out.1.trans (hb1.mono HB.out.1.size)) (HB.out.2.below hb1 HB.out.2.lt))
  have d0 : w1.cell? ⟨w.heap.size, 0, none⟩ = some (.int .i64 (st : Nat)) := H1.out.2.cell 0
  have d1 : w1.cell? ⟨w.heap.size, 1, none⟩ = some (.int .i64 (ss : Nat)) := H1.out.2.cell 1
  clear hb1 c0 c1
  go_wp2_with fail
  refine (HC.out _).mono ?_
  rintro e w2 ⟨rfl, hb2⟩
  have H2 := Lib.hid (H1.out.1.trans (hb2.mono H1.out.1.size))
  clear hb2
  go_wp2_with fail
  go_ret
  exact ⟨rfl, H2.out⟩

set_option maxRecDepth 100000 in
set_option maxHeartbeats 3200000 in
theorem name_zero (st ss : Nat) (hst : st ≤ 50) (hss : ss ≤ 50) (lock : Int) (h : lock = 0) (w : World) :
    Calls Tryz.prog 7 #[.agg #[.int .i64 (st : Nat), .int .i64 (ss : Nat)], .int .i64 lock] w fun e w' => e = .returned (.string ⟨#[105, 110, 100, 101, 120]⟩) ∧ Below w.heap.size w w' := by
  have hqI : 0 ≤ (st : Int) ∧ (st : Int) ≤ 100 := by omega
  have hsI : 0 ≤ (ss : Int) ∧ (ss : Int) ≤ 100 := by omega
  have HQ := Lib.hid (fun W => queues_any (st : Int) (ss : Int) hqI W)
  have HC := Lib.hid (fun W => count_any (st : Int) (ss : Int) hqI hsI W)
  have hb0 : Below w.heap.size w (w.alloc (.cells #[.int .i64 (st : Nat), .int .i64 (ss : Nat)] 24)) := (Below.refl _ w).alloc (Nat.le_refl _) _
  have hblk := Blk.made w 24 #[.int .i64 (st : Nat), .int .i64 (ss : Nat)]
  have HB := Lib.hid (And.intro hb0 hblk)
  clear hb0
  have hn : ¬ (lock < 0) := by omega
  have hnd : decide (lock < 0) = false := decide_eq_false hn
  have hg : ¬ ((1 : Int) + st + ss ≤ lock) := by omega
  have hgd : decide ((1 : Int) + st + ss ≤ lock) = false := decide_eq_false hg
  subst h
  clear hqI hsI hst hss
  have c0 : (w.alloc (.cells #[.int .i64 (st : Nat), .int .i64 (ss : Nat)] 24)).cell? ⟨w.heap.size, 0, none⟩ = some (.int .i64 (st : Nat)) := hblk.cell 0
  have c1 : (w.alloc (.cells #[.int .i64 (st : Nat), .int .i64 (ss : Nat)] 24)).cell? ⟨w.heap.size, 1, none⟩ = some (.int .i64 (ss : Nat)) := hblk.cell 1
  clear hblk
  go_enter Tryz.func7, Tryz.ntmps7
  go_wp2_with fail
  refine (HQ.out _).mono ?_
  rintro e w1 ⟨rfl, hb1⟩
  have H1 := Lib.hid (And.intro (HB.out.1.trans (hb1.mono HB.out.1.size)) (HB.out.2.below hb1 HB.out.2.lt))
  have d0 : w1.cell? ⟨w.heap.size, 0, none⟩ = some (.int .i64 (st : Nat)) := H1.out.2.cell 0
  have d1 : w1.cell? ⟨w.heap.size, 1, none⟩ = some (.int .i64 (ss : Nat)) := H1.out.2.cell 1
  clear hb1 c0 c1
  go_wp2_with fail
  refine (HC.out _).mono ?_
  rintro e w2 ⟨rfl, hb2⟩
  have H2 := Lib.hid (H1.out.1.trans (hb2.mono H1.out.1.size))
  clear hb2
  go_wp2_with fail
  go_ret
  exact ⟨rfl, H2.out⟩

set_option maxRecDepth 100000 in
set_option maxHeartbeats 3200000 in
theorem name_str (st ss : Nat) (hst : st ≤ 50) (hss : ss ≤ 50) (lock : Int) (x : ByteArray) (n : Nat) (hx : ofL (Lib.decDigits n) = x) (hxs : x.size ≤ 2) (hn100 : n < 100) (h : lock = n + 1) (hl : lock < 1 + (st : Int)) (w : World) :
    Calls Tryz.prog 7 #[.agg #[.int .i64 (st : Nat), .int .i64 (ss : Nat)], .int .i64 lock] w fun e w' => e = .returned (.string ((⟨#[115, 116, 114, 105, 112, 101, 32]⟩ : ByteArray) ++ x)) ∧ Below w.heap.size w w' := by
  have hqI : 0 ≤ (st : Int) ∧ (st : Int) ≤ 100 := by omega
  have hsI : 0 ≤ (ss : Int) ∧ (ss : Int) ≤ 100 := by omega
  have HQ := Lib.hid (fun W => queues_any (st : Int) (ss : Int) hqI W)
  have HC := Lib.hid (fun W => count_any (st : Int) (ss : Int) hqI hsI W)
  have hb0 : Below w.heap.size w (w.alloc (.cells #[.int .i64 (st : Nat), .int .i64 (ss : Nat)] 24)) := (Below.refl _ w).alloc (Nat.le_refl _) _
  have hblk := Blk.made w 24 #[.int .i64 (st : Nat), .int .i64 (ss : Nat)]
  have HB := Lib.hid (And.intro hb0 hblk)
  clear hb0
  have hn : ¬ (lock < 0) := by omega
  have hnd : decide (lock < 0) = false := decide_eq_false hn
  have hg : ¬ ((1 : Int) + st + ss ≤ lock) := by omega
  have hgd : decide ((1 : Int) + st + ss ≤ lock) = false := decide_eq_false hg
  have hz : ¬ (lock = 0) := by omega
  have hzb : (lock == 0) = false := by simpa using hz
  have hld : decide (lock < 1 + (st : Int)) = true := decide_eq_true hl
  have hw : IntKind.i64.wrap (lock - 1) = (n : Int) := by rw [lt_wrap _ (by omega)]; omega
  have HI := Lib.hid (fun W => itoa_small n hn100 W)
  rw [hx] at HI
  clear hx h hn100
  clear hqI hsI hst hss
  have c0 : (w.alloc (.cells #[.int .i64 (st : Nat), .int .i64 (ss : Nat)] 24)).cell? ⟨w.heap.size, 0, none⟩ = some (.int .i64 (st : Nat)) := hblk.cell 0
  have c1 : (w.alloc (.cells #[.int .i64 (st : Nat), .int .i64 (ss : Nat)] 24)).cell? ⟨w.heap.size, 1, none⟩ = some (.int .i64 (ss : Nat)) := hblk.cell 1
  clear hblk
  go_enter Tryz.func7, Tryz.ntmps7
  go_wp2_with fail
  refine (HQ.out _).mono ?_
  rintro e w1 ⟨rfl, hb1⟩
  have H1 := Lib.hid (And.intro (HB.out.1.trans (hb1.mono HB.out.1.size)) (HB.out.2.below hb1 HB.out.2.lt))
  have d0 : w1.cell? ⟨w.heap.size, 0, none⟩ = some (.int .i64 (st : Nat)) := H1.out.2.cell 0
  have d1 : w1.cell? ⟨w.heap.size, 1, none⟩ = some (.int .i64 (ss : Nat)) := H1.out.2.cell 1
  clear hb1 c0 c1
  go_wp2_with fail
  refine (HC.out _).mono ?_
  rintro e w2 ⟨rfl, hb2⟩
  have H2 := Lib.hid (H1.out.1.trans (hb2.mono H1.out.1.size))
  clear hb2
  go_wp2_with fail
  refine (HI.out _).mono ?_
  rintro e w3 ⟨rfl, rfl⟩
  go_wp2_with fail
  go_ret
  exact ⟨rfl, H2.out⟩

set_option maxRecDepth 100000 in
set_option maxHeartbeats 3200000 in
theorem name_que (st ss : Nat) (hst : st ≤ 50) (hss : ss ≤ 50) (lock : Int) (x : ByteArray) (n : Nat) (hx : ofL (Lib.decDigits n) = x) (hxs : x.size ≤ 2) (hn100 : n < 100) (h : lock = n + (1 + (st : Int))) (hl : lock < 1 + st + ss) (w : World) :
    Calls Tryz.prog 7 #[.agg #[.int .i64 (st : Nat), .int .i64 (ss : Nat)], .int .i64 lock] w fun e w' => e = .returned (.string ((⟨#[113, 117, 101, 117, 101, 32]⟩ : ByteArray) ++ x)) ∧ Below w.heap.size w w' := by
  have hqI : 0 ≤ (st : Int) ∧ (st : Int) ≤ 100 := by omega
  have hsI : 0 ≤ (ss : Int) ∧ (ss : Int) ≤ 100 := by omega
  have HQ := Lib.hid (fun W => queues_any (st : Int) (ss : Int) hqI W)
  have HC := Lib.hid (fun W => count_any (st : Int) (ss : Int) hqI hsI W)
  have hb0 : Below w.heap.size w (w.alloc (.cells #[.int .i64 (st : Nat), .int .i64 (ss : Nat)] 24)) := (Below.refl _ w).alloc (Nat.le_refl _) _
  have hblk := Blk.made w 24 #[.int .i64 (st : Nat), .int .i64 (ss : Nat)]
  have HB := Lib.hid (And.intro hb0 hblk)
  clear hb0
  have hn : ¬ (lock < 0) := by omega
  have hnd : decide (lock < 0) = false := decide_eq_false hn
  have hg : ¬ ((1 : Int) + st + ss ≤ lock) := by omega
  have hgd : decide ((1 : Int) + st + ss ≤ lock) = false := decide_eq_false hg
  have hz : ¬ (lock = 0) := by omega
  have hzb : (lock == 0) = false := by simpa using hz
  have hl2 : ¬ (lock < 1 + (st : Int)) := by omega
  have hld : decide (lock < 1 + (st : Int)) = false := decide_eq_false hl2
  have hw : IntKind.i64.wrap (lock - (1 + (st : Int))) = (n : Int) := by rw [lt_wrap _ (by omega)]; omega
  have HI := Lib.hid (fun W => itoa_small n hn100 W)
  rw [hx] at HI
  clear hx h hn100
  clear hqI hsI hst hss
  have c0 : (w.alloc (.cells #[.int .i64 (st : Nat), .int .i64 (ss : Nat)] 24)).cell? ⟨w.heap.size, 0, none⟩ = some (.int .i64 (st : Nat)) := hblk.cell 0
  have c1 : (w.alloc (.cells #[.int .i64 (st : Nat), .int .i64 (ss : Nat)] 24)).cell? ⟨w.heap.size, 1, none⟩ = some (.int .i64 (ss : Nat)) := hblk.cell 1
  clear hblk
  go_enter Tryz.func7, Tryz.ntmps7
  go_wp2_with fail
  refine (HQ.out _).mono ?_
  rintro e w1 ⟨rfl, hb1⟩
  have H1 := Lib.hid (And.intro (HB.out.1.trans (hb1.mono HB.out.1.size)) (HB.out.2.below hb1 HB.out.2.lt))
  have d0 : w1.cell? ⟨w.heap.size, 0, none⟩ = some (.int .i64 (st : Nat)) := H1.out.2.cell 0
  have d1 : w1.cell? ⟨w.heap.size, 1, none⟩ = some (.int .i64 (ss : Nat)) := H1.out.2.cell 1
  clear hb1 c0 c1
  go_wp2_with fail
  refine (HC.out _).mono ?_
  rintro e w2 ⟨rfl, hb2⟩
  have H2 := Lib.hid (H1.out.1.trans (hb2.mono H1.out.1.size))
  clear hb2
  go_wp2_with fail
  refine (HI.out _).mono ?_
  rintro e w3 ⟨rfl, rfl⟩
  go_wp2_with fail
  go_ret
  exact ⟨rfl, H2.out⟩

theorem name_any (st ss : Nat) (hst : st ≤ 50) (hss : ss ≤ 50) (lock : Int) (w : World) :
    Calls Tryz.prog 7 #[.agg #[.int .i64 (st : Nat), .int .i64 (ss : Nat)], .int .i64 lock] w fun e w' => e = .returned (.string (nameS st ss lock)) ∧ Below w.heap.size w w' := by
  unfold nameS
  by_cases h1 : lock < 0
  · rw [if_pos (.inl h1)]; exact name_neg st ss hst hss lock h1 w
  by_cases h2 : (1 + st + ss : Int) ≤ lock
  · rw [if_pos (.inr h2)]; exact name_big st ss hst hss lock h2 w
  rw [if_neg (by omega)]
  by_cases h3 : lock = 0
  · rw [if_pos h3]; exact name_zero st ss hst hss lock h3 w
  rw [if_neg h3]
  by_cases h4 : lock < 1 + (st : Int)
  · rw [if_pos h4]
    exact name_str st ss hst hss lock _ (lock.toNat - 1) rfl (dec_small _ (by omega)) (by omega) (by omega) h4 w
  · rw [if_neg h4]
    exact name_que st ss hst hss lock _ (lock.toNat - 1 - st) rfl (dec_small _ (by omega)) (by omega) (by omega) (by omega) w

set_option maxRecDepth 100000 in
set_option maxHeartbeats 3200000 in
theorem rname_neg (st ss : Nat) (hst : st ≤ 50) (hss : ss ≤ 50) (lock : Int) (h : lock < 0) (w : World) :
    Calls Tryz.prog 8 #[.int .i64 (st : Nat), .int .i64 (ss : Nat), .int .i64 lock] w fun e w' => e = .returned (.string ⟨#[]⟩) ∧ w = w' := by
  have hz : ¬ (lock = 0) := by omega
  have hzb : (lock == 0) = false := by simpa using hz
  have h1 : ¬ ((1 : Int) ≤ lock) := by omega
  have h1d : decide ((1 : Int) ≤ lock) = false := decide_eq_false h1
  have h2 : ¬ ((st : Int) < lock) := by omega
  have h2d : decide ((st : Int) < lock) = false := decide_eq_false h2
  clear h hst hss
  go_enter Tryz.func8, Tryz.ntmps8
  go_wp2_with fail
  go_ret
  exact ⟨rfl, rfl⟩

set_option maxRecDepth 100000 in
set_option maxHeartbeats 3200000 in
theorem rname_big (st ss : Nat) (hst : st ≤ 50) (hss : ss ≤ 50) (lock : Int) (h : (1 + st + ss : Int) ≤ lock) (w : World) :
    Calls Tryz.prog 8 #[.int .i64 (st : Nat), .int .i64 (ss : Nat), .int .i64 lock] w fun e w' => e = .returned (.string ⟨#[]⟩) ∧ w = w' := by
  have hz : ¬ (lock = 0) := by omega
  have hzb : (lock == 0) = false := by simpa using hz
  have hww : IntKind.i64.wrap ((st : Int) + ss) = (st : Int) + ss := lt_wrap _ (by omega)
  have h1 : (1 : Int) ≤ lock := by omega
  have h1d : decide ((1 : Int) ≤ lock) = true := decide_eq_true h1
  have h3 : ¬ (lock ≤ (st : Int)) := by omega
  have h3d : decide (lock ≤ (st : Int)) = false := decide_eq_false h3
  have h2 : (st : Int) < lock := by omega
  have h2d : decide ((st : Int) < lock) = true := decide_eq_true h2
  have h4 : ¬ (lock ≤ (st : Int) + ss) := by omega
  have h4d : decide (lock ≤ (st : Int) + ss) = false := decide_eq_false h4
  clear h hst hss
  go_enter Tryz.func8, Tryz.ntmps8
  go_wp2_with fail
  go_ret
  exact ⟨rfl, rfl⟩

set_option maxRecDepth 100000 in
set_option maxHeartbeats 3200000 in
theorem rname_zero (st ss : Nat) (hst : st ≤ 50) (hss : ss ≤ 50) (lock : Int) (h : lock = 0) (w : World) :
    Calls Tryz.prog 8 #[.int .i64 (st : Nat), .int .i64 (ss : Nat), .int .i64 lock] w fun e w' => e = .returned (.string ⟨#[105, 110, 100, 101, 120]⟩) ∧ w = w' := by
  subst h
  go_enter Tryz.func8, Tryz.ntmps8
  go_wp2_with fail
  go_ret
  exact ⟨rfl, rfl⟩

set_option maxRecDepth 100000 in
set_option maxHeartbeats 3200000 in
theorem rname_str (st ss : Nat) (hst : st ≤ 50) (hss : ss ≤ 50) (lock : Int) (x : ByteArray) (n : Nat) (hx : ofL (Lib.decDigits n) = x) (hxs : x.size ≤ 2) (hn100 : n < 100) (h : lock = n + 1) (hl : lock < 1 + (st : Int)) (w : World) :
    Calls Tryz.prog 8 #[.int .i64 (st : Nat), .int .i64 (ss : Nat), .int .i64 lock] w fun e w' => e = .returned (.string ((⟨#[115, 116, 114, 105, 112, 101, 32]⟩ : ByteArray) ++ x)) ∧ w = w' := by
  have hz : ¬ (lock = 0) := by omega
  have hzb : (lock == 0) = false := by simpa using hz
  have h1 : (1 : Int) ≤ lock := by omega
  have h1d : decide ((1 : Int) ≤ lock) = true := decide_eq_true h1
  have h3 : lock ≤ (st : Int) := by omega
  have h3d : decide (lock ≤ (st : Int)) = true := decide_eq_true h3
  have hw : IntKind.i64.wrap (lock - 1) = (n : Int) := by rw [lt_wrap _ (by omega)]; omega
  have hw2 : IntKind.u32.wrap (n : Int) = (n : Int) := lt_wrap32 _ (by omega)
  have HD := Lib.hid (fun W => rDecimal_any n W (by omega))
  rw [hx] at HD
  clear h hl hst hss hx hn100
  go_enter Tryz.func8, Tryz.ntmps8
  go_wp2_with fail
  refine (HD.out _).mono ?_
  rintro e w1 ⟨rfl, rfl⟩
  go_wp2_with fail
  go_ret
  exact ⟨rfl, rfl⟩

set_option maxRecDepth 100000 in
set_option maxHeartbeats 3200000 in
theorem rname_que (st ss : Nat) (hst : st ≤ 50) (hss : ss ≤ 50) (lock : Int) (x : ByteArray) (n : Nat) (hx : ofL (Lib.decDigits n) = x) (hxs : x.size ≤ 2) (hn100 : n < 100) (h : lock = n + (1 + (st : Int))) (hl : lock < 1 + st + ss) (w : World) :
    Calls Tryz.prog 8 #[.int .i64 (st : Nat), .int .i64 (ss : Nat), .int .i64 lock] w fun e w' => e = .returned (.string ((⟨#[113, 117, 101, 117, 101, 32]⟩ : ByteArray) ++ x)) ∧ w = w' := by
  have hz : ¬ (lock = 0) := by omega
  have hzb : (lock == 0) = false := by simpa using hz
  have hww : IntKind.i64.wrap ((st : Int) + ss) = (st : Int) + ss := lt_wrap _ (by omega)
  have h1 : (1 : Int) ≤ lock := by omega
  have h1d : decide ((1 : Int) ≤ lock) = true := decide_eq_true h1
  have h3 : ¬ (lock ≤ (st : Int)) := by omega
  have h3d : decide (lock ≤ (st : Int)) = false := decide_eq_false h3
  have h2 : (st : Int) < lock := by omega
  have h2d : decide ((st : Int) < lock) = true := decide_eq_true h2
  have h4 : lock ≤ (st : Int) + ss := by omega
  have h4d : decide (lock ≤ (st : Int) + ss) = true := decide_eq_true h4
  obtain ⟨p, hp⟩ : ∃ p, lock - 1 = p := ⟨_, rfl⟩
  have hw0 : IntKind.i64.wrap p = p := lt_wrap _ (by omega)
  have hw : IntKind.i64.wrap (p - (st : Int)) = (n : Int) := by rw [lt_wrap _ (by omega)]; omega
  have hw2 : IntKind.u32.wrap (n : Int) = (n : Int) := lt_wrap32 _ (by omega)
  have HD := Lib.hid (fun W => rDecimal_any n W (by omega))
  rw [hx] at HD
  clear h hl hst hss hx hn100
  go_enter Tryz.func8, Tryz.ntmps8
  go_wp2_with fail
  refine (HD.out _).mono ?_
  rintro e w1 ⟨rfl, rfl⟩
  go_wp2_with fail
  go_ret
  exact ⟨rfl, rfl⟩

theorem rname_any (st ss : Nat) (hst : st ≤ 50) (hss : ss ≤ 50) (lock : Int) (w : World) :
    Calls Tryz.prog 8 #[.int .i64 (st : Nat), .int .i64 (ss : Nat), .int .i64 lock] w fun e w' => e = .returned (.string (nameS st ss lock)) ∧ w = w' := by
  unfold nameS
  by_cases h1 : lock < 0
  · rw [if_pos (.inl h1)]; exact rname_neg st ss hst hss lock h1 w
  by_cases h2 : (1 + st + ss : Int) ≤ lock
  · rw [if_pos (.inr h2)]; exact rname_big st ss hst hss lock h2 w
  rw [if_neg (by omega)]
  by_cases h3 : lock = 0
  · rw [if_pos h3]; exact rname_zero st ss hst hss lock h3 w
  rw [if_neg h3]
  by_cases h4 : lock < 1 + (st : Int)
  · rw [if_pos h4]
    exact rname_str st ss hst hss lock _ (lock.toNat - 1) rfl (dec_small _ (by omega)) (by omega) (by omega) h4 w
  · rw [if_neg h4]
    exact rname_que st ss hst hss lock _ (lock.toNat - 1 - st) rfl (dec_small _ (by omega)) (by omega) (by omega) (by omega) w

set_option maxRecDepth 100000 in
set_option maxHeartbeats 3200000 in
theorem nstripe_yes (st ss : Nat) (hst : st ≤ 50) (hss : ss ≤ 50) (lock : Int) (h0 : 0 ≤ lock) (h1 : lock < (st : Nat)) (w : World) :
    Calls Tryz.prog 9 #[.agg #[.int .i64 (st : Nat), .int .i64 (ss : Nat)], .int .i64 lock] w fun e w' => e = .returned (.tuple #[.int .i64 (1 + lock), .bool true]) ∧ Below w.heap.size w w' := by
  have h0n : ¬ (lock < 0) := by omega
  have h0d : decide (lock < 0) = false := decide_eq_false h0n
  have h1n : ¬ ((st : Int) ≤ lock) := by omega
  have h1d : decide ((st : Int) ≤ lock) = false := decide_eq_false h1n
  have hw : IntKind.i64.wrap (1 + lock) = (1 + lock) := lt_wrap _ (by omega)
  have hb0 : Below w.heap.size w (w.alloc (.cells #[.int .i64 (st : Nat), .int .i64 (ss : Nat)] 24)) := (Below.refl _ w).alloc (Nat.le_refl _) _
  have hblk := Blk.made w 24 #[.int .i64 (st : Nat), .int .i64 (ss : Nat)]
  have c0 : (w.alloc (.cells #[.int .i64 (st : Nat), .int .i64 (ss : Nat)] 24)).cell? ⟨w.heap.size, 0, none⟩ = some (.int .i64 (st : Nat)) := hblk.cell 0
  have c1 : (w.alloc (.cells #[.int .i64 (st : Nat), .int .i64 (ss : Nat)] 24)).cell? ⟨w.heap.size, 1, none⟩ = some (.int .i64 (ss : Nat)) := hblk.cell 1
  have HB := Lib.hid hb0
  clear hb0 hblk
  clear h0 h1 hst hss
  go_enter Tryz.func9, Tryz.ntmps9
  go_wp2_with fail
  go_ret2
  exact ⟨rfl, HB.out⟩

set_option maxRecDepth 100000 in
set_option maxHeartbeats 3200000 in
theorem nstripe_no (st ss : Nat) (hst : st ≤ 50) (hss : ss ≤ 50) (lock : Int) (h : lock < 0 ∨ ((st : Nat) : Int) ≤ lock) (w : World) :
    Calls Tryz.prog 9 #[.agg #[.int .i64 (st : Nat), .int .i64 (ss : Nat)], .int .i64 lock] w fun e w' => e = .returned (.tuple #[.int .i64 0, .bool false]) ∧ Below w.heap.size w w' := by
  have hb0 : Below w.heap.size w (w.alloc (.cells #[.int .i64 (st : Nat), .int .i64 (ss : Nat)] 24)) := (Below.refl _ w).alloc (Nat.le_refl _) _
  have hblk := Blk.made w 24 #[.int .i64 (st : Nat), .int .i64 (ss : Nat)]
  have c0 : (w.alloc (.cells #[.int .i64 (st : Nat), .int .i64 (ss : Nat)] 24)).cell? ⟨w.heap.size, 0, none⟩ = some (.int .i64 (st : Nat)) := hblk.cell 0
  have c1 : (w.alloc (.cells #[.int .i64 (st : Nat), .int .i64 (ss : Nat)] 24)).cell? ⟨w.heap.size, 1, none⟩ = some (.int .i64 (ss : Nat)) := hblk.cell 1
  have HB := Lib.hid hb0
  clear hb0 hblk
  clear hst hss
  by_cases h0 : lock < 0
  · have h0d : decide (lock < 0) = true := decide_eq_true h0
    clear h
    go_enter Tryz.func9, Tryz.ntmps9
    go_wp2_with fail
    go_ret2
    exact ⟨rfl, HB.out⟩
  · have h0d : decide (lock < 0) = false := decide_eq_false h0
    have h1 := h.resolve_left h0
    have h1d : decide ((st : Int) ≤ lock) = true := decide_eq_true h1
    clear h
    go_enter Tryz.func9, Tryz.ntmps9
    go_wp2_with fail
    go_ret2
    exact ⟨rfl, HB.out⟩

set_option maxRecDepth 100000 in
set_option maxHeartbeats 3200000 in
theorem nqueue_yes (st ss : Nat) (hst : st ≤ 50) (hss : ss ≤ 50) (lock : Int) (h0 : 0 ≤ lock) (h1 : lock < (ss : Nat)) (w : World) :
    Calls Tryz.prog 10 #[.agg #[.int .i64 (st : Nat), .int .i64 (ss : Nat)], .int .i64 lock] w fun e w' => e = .returned (.tuple #[.int .i64 (1 + (st : Int) + lock), .bool true]) ∧ Below w.heap.size w w' := by
  have h0n : ¬ (lock < 0) := by omega
  have h0d : decide (lock < 0) = false := decide_eq_false h0n
  have h1n : ¬ ((ss : Int) ≤ lock) := by omega
  have h1d : decide ((ss : Int) ≤ lock) = false := decide_eq_false h1n
  have hw : IntKind.i64.wrap (1 + (st : Int) + lock) = (1 + (st : Int) + lock) := lt_wrap _ (by omega)
  have hb0 : Below w.heap.size w (w.alloc (.cells #[.int .i64 (st : Nat), .int .i64 (ss : Nat)] 24)) := (Below.refl _ w).alloc (Nat.le_refl _) _
  have hblk := Blk.made w 24 #[.int .i64 (st : Nat), .int .i64 (ss : Nat)]
  have c0 : (w.alloc (.cells #[.int .i64 (st : Nat), .int .i64 (ss : Nat)] 24)).cell? ⟨w.heap.size, 0, none⟩ = some (.int .i64 (st : Nat)) := hblk.cell 0
  have c1 : (w.alloc (.cells #[.int .i64 (st : Nat), .int .i64 (ss : Nat)] 24)).cell? ⟨w.heap.size, 1, none⟩ = some (.int .i64 (ss : Nat)) := hblk.cell 1
  have HB := Lib.hid hb0
  clear hb0 hblk
  have HQ := Lib.hid (fun W => queues_any (st : Int) (ss : Int) (by omega) W)
  clear h0 h1 hst hss
  go_enter Tryz.func10, Tryz.ntmps10
  go_wp2_with fail
  refine (HQ.out _).mono ?_
  rintro e w1 ⟨rfl, hb1⟩
  have H1 := Lib.hid (HB.out.trans (hb1.mono HB.out.size))
  clear hb1
  go_wp2_with fail
  go_ret2
  exact ⟨rfl, H1.out⟩

set_option maxRecDepth 100000 in
set_option maxHeartbeats 3200000 in
theorem nqueue_no (st ss : Nat) (hst : st ≤ 50) (hss : ss ≤ 50) (lock : Int) (h : lock < 0 ∨ ((ss : Nat) : Int) ≤ lock) (w : World) :
    Calls Tryz.prog 10 #[.agg #[.int .i64 (st : Nat), .int .i64 (ss : Nat)], .int .i64 lock] w fun e w' => e = .returned (.tuple #[.int .i64 0, .bool false]) ∧ Below w.heap.size w w' := by
  have hb0 : Below w.heap.size w (w.alloc (.cells #[.int .i64 (st : Nat), .int .i64 (ss : Nat)] 24)) := (Below.refl _ w).alloc (Nat.le_refl _) _
  have hblk := Blk.made w 24 #[.int .i64 (st : Nat), .int .i64 (ss : Nat)]
  have c0 : (w.alloc (.cells #[.int .i64 (st : Nat), .int .i64 (ss : Nat)] 24)).cell? ⟨w.heap.size, 0, none⟩ = some (.int .i64 (st : Nat)) := hblk.cell 0
  have c1 : (w.alloc (.cells #[.int .i64 (st : Nat), .int .i64 (ss : Nat)] 24)).cell? ⟨w.heap.size, 1, none⟩ = some (.int .i64 (ss : Nat)) := hblk.cell 1
  have HB := Lib.hid hb0
  clear hb0 hblk
  clear hst hss
  by_cases h0 : lock < 0
  · have h0d : decide (lock < 0) = true := decide_eq_true h0
    clear h
    go_enter Tryz.func10, Tryz.ntmps10
    go_wp2_with fail
    go_ret2
    exact ⟨rfl, HB.out⟩
  · have h0d : decide (lock < 0) = false := decide_eq_false h0
    have h1 := h.resolve_left h0
    have h1d : decide ((ss : Int) ≤ lock) = true := decide_eq_true h1
    clear h
    go_enter Tryz.func10, Tryz.ntmps10
    go_wp2_with fail
    go_ret2
    exact ⟨rfl, HB.out⟩

theorem index_any (st ss : Nat) (w : World) : Calls Tryz.prog 6 #[.agg #[.int .i64 (st : Nat), .int .i64 (ss : Nat)]] w fun e w' => e = .returned (.int .i64 0) ∧ Below w.heap.size w w' := by
  have HB := Lib.hid (show Below w.heap.size w (w.alloc (.cells #[.int .i64 (st : Nat), .int .i64 (ss : Nat)] 24)) from (Below.refl _ w).alloc (Nat.le_refl _) _)
  go_enter Tryz.func6, Tryz.ntmps6
  go_wp2_with fail
  go_ret
  exact ⟨rfl, HB.out⟩
end Go.Proofs.YtamholmjppgfiaaGreatDoor

namespace Go.Proofs.YtamholmjppgfiaaGreatDoor
open Go Go.RowKit Go.Shelf Go.Lib Go.Sort

set_option maxRecDepth 100000 in
set_option maxHeartbeats 12800000 in
theorem planNames_walk (a b : Nat) (lock : Int) (w : World) (ha : a < 256) (hb : b < 256) (hlk : -9223372036854775808 ≤ lock ∧ lock ≤ 9223372036854775807) :
    Calls Tryz.prog 3 #[.agg #[.int .u8 a, .int .u8 b], .int .i64 lock] w fun e w' => e = .returned (.bool true) ∧ Below w.heap.size w w' := by
  have HLy := Lib.hid (fun W => layout_any a b ha hb W)
  have hst : lSt a ≤ 16 := by unfold lSt; omega
  have hss : lSs b ≤ 16 := by unfold lSs; omega
  generalize lSt a = st at *
  generalize lSs b = ss at *
  have hqI : 0 ≤ (st : Int) ∧ (st : Int) ≤ 100 := by omega
  have hsI : 0 ≤ (ss : Int) ∧ (ss : Int) ≤ 100 := by omega
  have HC := Lib.hid (fun W => count_any (st : Int) (ss : Int) hqI hsI W)
  have HI := Lib.hid (fun W => index_any st ss W)
  have HN := Lib.hid (fun W => name_any st ss (by omega) (by omega) lock W)
  have HRn := Lib.hid (fun W => rname_any st ss (by omega) (by omega) lock W)
  have HSy := Lib.hid (fun h0 h1 W => nstripe_yes st ss (by omega) (by omega) lock h0 h1 W)
  have HSn := Lib.hid (fun h W => nstripe_no st ss (by omega) (by omega) lock h W)
  have HQy := Lib.hid (fun h0 h1 W => nqueue_yes st ss (by omega) (by omega) lock h0 h1 W)
  have HQn := Lib.hid (fun h W => nqueue_no st ss (by omega) (by omega) lock h W)
  have HA := Lib.hid (fun W => alive_any W)
  generalize nameS st ss lock = nm at HN HRn
  have hw1 : IntKind.i64.wrap (1 + (st : Int)) = 1 + (st : Int) := lt_wrap _ (by omega)
  have hw2 : IntKind.i64.wrap (1 + (st : Int) + (ss : Int)) = 1 + (st : Int) + (ss : Int) := lt_wrap _ (by omega)
  have HB0 := Lib.hid (show Below w.heap.size w (w.alloc (.cells #[.int .u8 a, .int .u8 b] 22)) from (Below.refl _ w).alloc (Nat.le_refl _) _)
  clear ha hb hqI hsI
  go_enter Tryz.func3, Tryz.ntmps3
  go_wp2_with fail
  refine (HLy.out _).mono ?_
  rintro e w1 ⟨rfl, hb1⟩
  obtain ⟨lb, hlb⟩ : ∃ lb, w1.heap.size = lb := ⟨_, rfl⟩
  have H0 := Lib.hid (show Blk (w1.alloc (.cells #[.int .i64 (st : Nat), .int .i64 (ss : Nat)] 24)) lb 24 #[.int .i64 (st : Nat), .int .i64 (ss : Nat)] ∧ Below w.heap.size w (w1.alloc (.cells #[.int .i64 (st : Nat), .int .i64 (ss : Nat)] 24)) from ⟨by rw [← hlb]; exact Blk.made _ _ _, (HB0.out.trans (hb1.mono HB0.out.size)).alloc ((HB0.out.trans (hb1.mono HB0.out.size)).size) _⟩)
  clear hb1
  go_upto_region 2 with fail
  try rw [hlb]
  clear hlb
  refine region_anyC (fun W => Blk W lb 24 #[.int .i64 (st : Nat), .int .i64 (ss : Nat)]) (by kernel_rfl) ?_
  refine anyC_take (i := 2) (v := ?_) rfl (by kernel_rfl) (by kernel_rfl) (by kernel_rfl) (fun _ _ _ h => h) (H0.out.1) (Or.inl ⟨by rfl, ?_⟩) ?_
  rotate_left
  · intro W hW
    go_simp
    try with_reducible rfl
  try simp only [List.getElem_toArray, List.getElem_cons_zero, List.getElem_cons_succ, Act.put, List.setIfInBounds_toArray, List.set_cons_zero, List.set_cons_succ]
  refine anyC_take (i := 5) (v := ?_) rfl (by kernel_rfl) (by kernel_rfl) (by kernel_rfl) (fun _ _ _ h => h) (H0.out.1) (Or.inl ⟨by rfl, ?_⟩) ?_
  rotate_left
  · intro W hW
    go_simp
    try with_reducible rfl
  try simp only [List.getElem_toArray, List.getElem_cons_zero, List.getElem_cons_succ, Act.put, List.setIfInBounds_toArray, List.set_cons_zero, List.set_cons_succ]
  refine anyC_take (i := 3) (v := ?_) rfl (by kernel_rfl) (by kernel_rfl) (by kernel_rfl) (fun _ _ _ h => h) (H0.out.1) (Or.inl ⟨by rfl, ?_⟩) ?_
  rotate_left
  · intro W hW
    have x0 : W.cell? ⟨lb, 0, none⟩ = some (.int .i64 (st : Nat)) := hW.cell 0
    have x1 : W.cell? ⟨lb, 1, none⟩ = some (.int .i64 (ss : Nat)) := hW.cell 1
    go_simp
    try with_reducible rfl
  try simp only [List.getElem_toArray, List.getElem_cons_zero, List.getElem_cons_succ, Act.put, List.setIfInBounds_toArray, List.set_cons_zero, List.set_cons_succ]
  refine anyC_take (i := 6) (v := ?_) rfl (by kernel_rfl) (by kernel_rfl) (by kernel_rfl) (fun _ _ _ h => h) (H0.out.1) (Or.inl ⟨by rfl, ?_⟩) ?_
  rotate_left
  · intro W hW
    have x0 : W.cell? ⟨lb, 0, none⟩ = some (.int .i64 (st : Nat)) := hW.cell 0
    have x1 : W.cell? ⟨lb, 1, none⟩ = some (.int .i64 (ss : Nat)) := hW.cell 1
    go_simp
    try with_reducible rfl
  try simp only [List.getElem_toArray, List.getElem_cons_zero, List.getElem_cons_succ, Act.put, List.setIfInBounds_toArray, List.set_cons_zero, List.set_cons_succ]
  refine anyC_take (i := 0) (v := ?_) rfl (by kernel_rfl) (by kernel_rfl) (by kernel_rfl) (fun _ _ _ h => h) (H0.out.1) (Or.inl ⟨by rfl, ?_⟩) ?_
  rotate_left
  · intro W hW
    have x0 : W.cell? ⟨lb, 0, none⟩ = some (.int .i64 (st : Nat)) := hW.cell 0
    have x1 : W.cell? ⟨lb, 1, none⟩ = some (.int .i64 (ss : Nat)) := hW.cell 1
    go_simp
    try with_reducible rfl
  try simp only [List.getElem_toArray, List.getElem_cons_zero, List.getElem_cons_succ, Act.put, List.setIfInBounds_toArray, List.set_cons_zero, List.set_cons_succ]
  refine anyC_take (i := 4) (v := ?_) rfl (by kernel_rfl) (by kernel_rfl) (by kernel_rfl) (fun _ _ _ h => h) (H0.out.1) (Or.inl ⟨by rfl, ?_⟩) ?_
  rotate_left
  · intro W hW
    go_simp
    try with_reducible rfl
  try simp only [List.getElem_toArray, List.getElem_cons_zero, List.getElem_cons_succ, Act.put, List.setIfInBounds_toArray, List.set_cons_zero, List.set_cons_succ]
  refine anyC_take (i := 7) (v := ?_) rfl (by kernel_rfl) (by kernel_rfl) (by kernel_rfl) (fun _ _ _ h => h) (H0.out.1) (Or.inl ⟨by rfl, ?_⟩) ?_
  rotate_left
  · intro W hW
    go_simp
    try with_reducible rfl
  try simp only [List.getElem_toArray, List.getElem_cons_zero, List.getElem_cons_succ, Act.put, List.setIfInBounds_toArray, List.set_cons_zero, List.set_cons_succ]
  have H0d := Lib.hid (show Blk (w1.alloc (.cells #[.int .i64 (st : Nat), .int .i64 (ss : Nat)] 24)).drew lb 24 #[.int .i64 (st : Nat), .int .i64 (ss : Nat)] ∧ Below w.heap.size w (w1.alloc (.cells #[.int .i64 (st : Nat), .int .i64 (ss : Nat)] 24)).drew from ⟨H0.out.1, Below.drew H0.out.2⟩)
  refine anyC_one (i := 1) (by kernel_rfl) (fun K hK => ⟨_, rfl, by kernel_rfl, ?_⟩)
  go_simp
  refine (HC.out _).mono ?_
  rintro e w2 ⟨rfl, hb2⟩
  have H1 := Lib.hid (And.intro (H0d.out.1.below hb2 H0d.out.1.lt) (H0d.out.2.trans (hb2.mono H0d.out.2.size)))
  clear hb2
  refine hK _ _ (H1.out.1) ?_
  clear hK K
  try simp only [List.getElem_toArray, List.getElem_cons_zero, List.getElem_cons_succ, Act.put, List.setIfInBounds_toArray, List.set_cons_zero, List.set_cons_succ]
  refine anyC_take (i := 8) (v := ?_) rfl (by kernel_rfl) (by kernel_rfl) (by kernel_rfl) (fun _ _ _ h => h) (H1.out.1) (Or.inl ⟨by rfl, ?_⟩) ?_
  rotate_left
  · intro W hW
    go_simp
    try with_reducible rfl
  try simp only [List.getElem_toArray, List.getElem_cons_zero, List.getElem_cons_succ, Act.put, List.setIfInBounds_toArray, List.set_cons_zero, List.set_cons_succ]
  refine anyC_take (i := 9) (v := ?_) rfl (by kernel_rfl) (by kernel_rfl) (by kernel_rfl) (fun _ _ _ h => h) (H1.out.1) (Or.inl ⟨by rfl, ?_⟩) ?_
  rotate_left
  · intro W hW
    go_simp
    try with_reducible rfl
  try simp only [List.getElem_toArray, List.getElem_cons_zero, List.getElem_cons_succ, Act.put, List.setIfInBounds_toArray, List.set_cons_zero, List.set_cons_succ]
  refine anyC_take (i := 10) (v := ?_) rfl (by kernel_rfl) (by kernel_rfl) (by kernel_rfl) (fun _ _ _ h => h) (H1.out.1) (Or.inl ⟨by rfl, ?_⟩) ?_
  rotate_left
  · intro W hW
    have x0 : W.cell? ⟨lb, 0, none⟩ = some (.int .i64 (st : Nat)) := hW.cell 0
    have x1 : W.cell? ⟨lb, 1, none⟩ = some (.int .i64 (ss : Nat)) := hW.cell 1
    go_simp
    try with_reducible rfl
  try simp only [List.getElem_toArray, List.getElem_cons_zero, List.getElem_cons_succ, Act.put, List.setIfInBounds_toArray, List.set_cons_zero, List.set_cons_succ]
  refine anyC_one (i := 11) (by kernel_rfl) (fun K hK => ⟨_, rfl, by kernel_rfl, ?_⟩)
  go_simp
  refine (HI.out _).mono ?_
  rintro e w3 ⟨rfl, hb2⟩
  have H2 := Lib.hid (And.intro (H1.out.1.below hb2 H1.out.1.lt) (H1.out.2.trans (hb2.mono H1.out.2.size)))
  clear hb2
  refine hK _ _ (H2.out.1) ?_
  clear hK K
  try simp only [List.getElem_toArray, List.getElem_cons_zero, List.getElem_cons_succ, Act.put, List.setIfInBounds_toArray, List.set_cons_zero, List.set_cons_succ]
  refine anyC_take (i := 12) (v := ?_) rfl (by kernel_rfl) (by kernel_rfl) (by kernel_rfl) (fun _ _ _ h => h) (H2.out.1) (Or.inl ⟨by rfl, ?_⟩) ?_
  rotate_left
  · intro W hW
    go_simp
    try with_reducible rfl
  try simp only [List.getElem_toArray, List.getElem_cons_zero, List.getElem_cons_succ, Act.put, List.setIfInBounds_toArray, List.set_cons_zero, List.set_cons_succ]
  refine anyC_take (i := 13) (v := ?_) rfl (by kernel_rfl) (by kernel_rfl) (by kernel_rfl) (fun _ _ _ h => h) (H2.out.1) (Or.inl ⟨by rfl, ?_⟩) ?_
  rotate_left
  · intro W hW
    go_simp
    try with_reducible rfl
  try simp only [List.getElem_toArray, List.getElem_cons_zero, List.getElem_cons_succ, Act.put, List.setIfInBounds_toArray, List.set_cons_zero, List.set_cons_succ]
  refine anyC_take (i := 14) (v := ?_) rfl (by kernel_rfl) (by kernel_rfl) (by kernel_rfl) (fun _ _ _ h => h) (H2.out.1) (Or.inl ⟨by rfl, ?_⟩) ?_
  rotate_left
  · intro W hW
    go_simp
    try with_reducible rfl
  try simp only [List.getElem_toArray, List.getElem_cons_zero, List.getElem_cons_succ, Act.put, List.setIfInBounds_toArray, List.set_cons_zero, List.set_cons_succ]
  refine anyC_take (i := 16) (v := ?_) rfl (by kernel_rfl) (by kernel_rfl) (by kernel_rfl) (fun _ _ _ h => h) (H2.out.1) (Or.inl ⟨by rfl, ?_⟩) ?_
  rotate_left
  · intro W hW
    go_simp
    try with_reducible rfl
  try simp only [List.getElem_toArray, List.getElem_cons_zero, List.getElem_cons_succ, Act.put, List.setIfInBounds_toArray, List.set_cons_zero, List.set_cons_succ]
  refine anyC_take (i := 18) (v := ?_) rfl (by kernel_rfl) (by kernel_rfl) (by kernel_rfl) (fun _ _ _ h => h) (H2.out.1) (Or.inl ⟨by rfl, ?_⟩) ?_
  rotate_left
  · intro W hW
    go_simp
    try with_reducible rfl
  try simp only [List.getElem_toArray, List.getElem_cons_zero, List.getElem_cons_succ, Act.put, List.setIfInBounds_toArray, List.set_cons_zero, List.set_cons_succ]
  refine anyC_take (i := 20) (v := ?_) rfl (by kernel_rfl) (by kernel_rfl) (by kernel_rfl) (fun _ _ _ h => h) (H2.out.1) (Or.inl ⟨by rfl, ?_⟩) ?_
  rotate_left
  · intro W hW
    go_simp
    try with_reducible rfl
  try simp only [List.getElem_toArray, List.getElem_cons_zero, List.getElem_cons_succ, Act.put, List.setIfInBounds_toArray, List.set_cons_zero, List.set_cons_succ]
  refine anyC_take (i := 22) (v := ?_) rfl (by kernel_rfl) (by kernel_rfl) (by kernel_rfl) (fun _ _ _ h => h) (H2.out.1) (Or.inl ⟨by rfl, ?_⟩) ?_
  rotate_left
  · intro W hW
    go_simp
    try with_reducible rfl
  try simp only [List.getElem_toArray, List.getElem_cons_zero, List.getElem_cons_succ, Act.put, List.setIfInBounds_toArray, List.set_cons_zero, List.set_cons_succ]
  refine anyC_take (i := 15) (v := ?_) rfl (by kernel_rfl) (by kernel_rfl) (by kernel_rfl) (fun _ _ _ h => h) (H2.out.1) (Or.inl ⟨by rfl, ?_⟩) ?_
  rotate_left
  · intro W hW
    have x0 : W.cell? ⟨lb, 0, none⟩ = some (.int .i64 (st : Nat)) := hW.cell 0
    have x1 : W.cell? ⟨lb, 1, none⟩ = some (.int .i64 (ss : Nat)) := hW.cell 1
    go_simp
    try with_reducible rfl
  try simp only [List.getElem_toArray, List.getElem_cons_zero, List.getElem_cons_succ, Act.put, List.setIfInBounds_toArray, List.set_cons_zero, List.set_cons_succ]
  refine anyC_take (i := 19) (v := ?_) rfl (by kernel_rfl) (by kernel_rfl) (by kernel_rfl) (fun _ _ _ h => h) (H2.out.1) (Or.inl ⟨by rfl, ?_⟩) ?_
  rotate_left
  · intro W hW
    have x0 : W.cell? ⟨lb, 0, none⟩ = some (.int .i64 (st : Nat)) := hW.cell 0
    have x1 : W.cell? ⟨lb, 1, none⟩ = some (.int .i64 (ss : Nat)) := hW.cell 1
    go_simp
    try with_reducible rfl
  try simp only [List.getElem_toArray, List.getElem_cons_zero, List.getElem_cons_succ, Act.put, List.setIfInBounds_toArray, List.set_cons_zero, List.set_cons_succ]
  refine anyC_take (i := 21) (v := ?_) rfl (by kernel_rfl) (by kernel_rfl) (by kernel_rfl) (fun _ _ _ h => h) (H2.out.1) (Or.inl ⟨by rfl, ?_⟩) ?_
  rotate_left
  · intro W hW
    have x0 : W.cell? ⟨lb, 0, none⟩ = some (.int .i64 (st : Nat)) := hW.cell 0
    have x1 : W.cell? ⟨lb, 1, none⟩ = some (.int .i64 (ss : Nat)) := hW.cell 1
    go_simp
    try with_reducible rfl
  try simp only [List.getElem_toArray, List.getElem_cons_zero, List.getElem_cons_succ, Act.put, List.setIfInBounds_toArray, List.set_cons_zero, List.set_cons_succ]
  refine anyC_one (i := 17) (by kernel_rfl) (fun K hK => ⟨_, rfl, by kernel_rfl, ?_⟩)
  go_simp
  refine (HN.out _).mono ?_
  rintro e w4 ⟨rfl, hb2⟩
  have H3 := Lib.hid (And.intro (H2.out.1.below hb2 H2.out.1.lt) (H2.out.2.trans (hb2.mono H2.out.2.size)))
  clear hb2
  refine hK _ _ (H3.out.1) ?_
  clear hK K
  try simp only [List.getElem_toArray, List.getElem_cons_zero, List.getElem_cons_succ, Act.put, List.setIfInBounds_toArray, List.set_cons_zero, List.set_cons_succ]
  refine anyC_one (i := 23) (by kernel_rfl) (fun K hK => ⟨_, rfl, by kernel_rfl, ?_⟩)
  go_simp
  refine (HRn.out _).mono ?_
  rintro e w5 ⟨rfl, rfl⟩
  refine hK _ _ (H3.out.1) ?_
  clear hK K
  try simp only [List.getElem_toArray, List.getElem_cons_zero, List.getElem_cons_succ, Act.put, List.setIfInBounds_toArray, List.set_cons_zero, List.set_cons_succ]
  refine anyC_take (i := 24) (v := ?_) rfl (by kernel_rfl) (by kernel_rfl) (by kernel_rfl) (fun _ _ _ h => h) (H3.out.1) (Or.inl ⟨by rfl, ?_⟩) ?_
  rotate_left
  · intro W hW
    go_simp
    try with_reducible rfl
  try simp only [List.getElem_toArray, List.getElem_cons_zero, List.getElem_cons_succ, Act.put, List.setIfInBounds_toArray, List.set_cons_zero, List.set_cons_succ]
  refine anyC_take (i := 25) (v := ?_) rfl (by kernel_rfl) (by kernel_rfl) (by kernel_rfl) (fun _ _ _ h => h) (H3.out.1) (Or.inl ⟨by rfl, ?_⟩) ?_
  rotate_left
  · intro W hW
    go_simp
    try with_reducible rfl
  try simp only [List.getElem_toArray, List.getElem_cons_zero, List.getElem_cons_succ, Act.put, List.setIfInBounds_toArray, List.set_cons_zero, List.set_cons_succ]
  refine anyC_done (by kernel_rfl) ?_ _
  have d0 : w4.cell? ⟨lb, 0, none⟩ = some (.int .i64 (st : Nat)) := H3.out.1.cell 0
  have d1 : w4.cell? ⟨lb, 1, none⟩ = some (.int .i64 (ss : Nat)) := H3.out.1.cell 1
  by_cases h0 : lock < 0
  · have h0n : ¬ ((0 : Int) ≤ lock) := by omega
    have h0d : decide ((0 : Int) ≤ lock) = false := decide_eq_false h0n
    go_wp2_with fail
    refine (HSn.out (.inl h0) _).mono ?_
    rintro e w6 ⟨rfl, hb2⟩
    have H4 := Lib.hid (And.intro (H3.out.1.below hb2 H3.out.1.lt) (H3.out.2.trans (hb2.mono H3.out.2.size)))
    clear hb2 d0 d1
    have d0 : w6.cell? ⟨lb, 0, none⟩ = some (.int .i64 (st : Nat)) := H4.out.1.cell 0
    have d1 : w6.cell? ⟨lb, 1, none⟩ = some (.int .i64 (ss : Nat)) := H4.out.1.cell 1
    go_wp2_with fail
    refine (HQn.out (.inl h0) _).mono ?_
    rintro e w7 ⟨rfl, hb2⟩
    have H5 := Lib.hid (And.intro (H4.out.1.below hb2 H4.out.1.lt) (H4.out.2.trans (hb2.mono H4.out.2.size)))
    clear hb2 d0 d1
    have d0 : w7.cell? ⟨lb, 0, none⟩ = some (.int .i64 (st : Nat)) := H5.out.1.cell 0
    have d1 : w7.cell? ⟨lb, 1, none⟩ = some (.int .i64 (ss : Nat)) := H5.out.1.cell 1
    go_wp2_with fail
    refine (HA.out _).mono ?_
    rintro e w8 ⟨rfl, hb2⟩
    have H6 := Lib.hid (And.intro (H5.out.1.below hb2 H5.out.1.lt) (H5.out.2.trans (hb2.mono H5.out.2.size)))
    clear hb2 d0 d1
    have d0 : w8.cell? ⟨lb, 0, none⟩ = some (.int .i64 (st : Nat)) := H6.out.1.cell 0
    have d1 : w8.cell? ⟨lb, 1, none⟩ = some (.int .i64 (ss : Nat)) := H6.out.1.cell 1
    go_wp2_with fail
    go_ret
    exact ⟨by first | rfl | (simp; done), H6.out.2⟩
  have h0p : (0 : Int) ≤ lock := by omega
  have h0d : decide ((0 : Int) ≤ lock) = true := decide_eq_true h0p
  by_cases hs : lock < (st : Int)
  · by_cases hq : lock < (ss : Int)
    · have hsd : decide (lock < (st : Int)) = true := decide_eq_true hs
      have hqd : decide (lock < (ss : Int)) = true := decide_eq_true hq
      have hw3 : IntKind.i64.wrap (1 + lock) = 1 + lock := lt_wrap _ (by omega)
      have hw4 : IntKind.i64.wrap (1 + (st : Int) + lock) = 1 + (st : Int) + lock := lt_wrap _ (by omega)
      go_wp2_with fail
      refine (HSy.out h0p hs _).mono ?_
      rintro e w6 ⟨rfl, hb2⟩
      have H4 := Lib.hid (And.intro (H3.out.1.below hb2 H3.out.1.lt) (H3.out.2.trans (hb2.mono H3.out.2.size)))
      clear hb2 d0 d1
      have d0 : w6.cell? ⟨lb, 0, none⟩ = some (.int .i64 (st : Nat)) := H4.out.1.cell 0
      have d1 : w6.cell? ⟨lb, 1, none⟩ = some (.int .i64 (ss : Nat)) := H4.out.1.cell 1
      go_wp2_with fail
      refine (HQy.out h0p hq _).mono ?_
      rintro e w7 ⟨rfl, hb2⟩
      have H5 := Lib.hid (And.intro (H4.out.1.below hb2 H4.out.1.lt) (H4.out.2.trans (hb2.mono H4.out.2.size)))
      clear hb2 d0 d1
      have d0 : w7.cell? ⟨lb, 0, none⟩ = some (.int .i64 (st : Nat)) := H5.out.1.cell 0
      have d1 : w7.cell? ⟨lb, 1, none⟩ = some (.int .i64 (ss : Nat)) := H5.out.1.cell 1
      go_wp2_with fail
      refine (HA.out _).mono ?_
      rintro e w8 ⟨rfl, hb2⟩
      have H6 := Lib.hid (And.intro (H5.out.1.below hb2 H5.out.1.lt) (H5.out.2.trans (hb2.mono H5.out.2.size)))
      clear hb2 d0 d1
      have d0 : w8.cell? ⟨lb, 0, none⟩ = some (.int .i64 (st : Nat)) := H6.out.1.cell 0
      have d1 : w8.cell? ⟨lb, 1, none⟩ = some (.int .i64 (ss : Nat)) := H6.out.1.cell 1
      go_wp2_with fail
      go_ret
      exact ⟨by first | rfl | (simp; done), H6.out.2⟩
    · have hsd : decide (lock < (st : Int)) = true := decide_eq_true hs
      have hqd : decide (lock < (ss : Int)) = false := decide_eq_false hq
      have hw3 : IntKind.i64.wrap (1 + lock) = 1 + lock := lt_wrap _ (by omega)
      go_wp2_with fail
      refine (HSy.out h0p hs _).mono ?_
      rintro e w6 ⟨rfl, hb2⟩
      have H4 := Lib.hid (And.intro (H3.out.1.below hb2 H3.out.1.lt) (H3.out.2.trans (hb2.mono H3.out.2.size)))
      clear hb2 d0 d1
      have d0 : w6.cell? ⟨lb, 0, none⟩ = some (.int .i64 (st : Nat)) := H4.out.1.cell 0
      have d1 : w6.cell? ⟨lb, 1, none⟩ = some (.int .i64 (ss : Nat)) := H4.out.1.cell 1
      go_wp2_with fail
      refine (HQn.out (.inr (by omega)) _).mono ?_
      rintro e w7 ⟨rfl, hb2⟩
      have H5 := Lib.hid (And.intro (H4.out.1.below hb2 H4.out.1.lt) (H4.out.2.trans (hb2.mono H4.out.2.size)))
      clear hb2 d0 d1
      have d0 : w7.cell? ⟨lb, 0, none⟩ = some (.int .i64 (st : Nat)) := H5.out.1.cell 0
      have d1 : w7.cell? ⟨lb, 1, none⟩ = some (.int .i64 (ss : Nat)) := H5.out.1.cell 1
      go_wp2_with fail
      refine (HA.out _).mono ?_
      rintro e w8 ⟨rfl, hb2⟩
      have H6 := Lib.hid (And.intro (H5.out.1.below hb2 H5.out.1.lt) (H5.out.2.trans (hb2.mono H5.out.2.size)))
      clear hb2 d0 d1
      have d0 : w8.cell? ⟨lb, 0, none⟩ = some (.int .i64 (st : Nat)) := H6.out.1.cell 0
      have d1 : w8.cell? ⟨lb, 1, none⟩ = some (.int .i64 (ss : Nat)) := H6.out.1.cell 1
      go_wp2_with fail
      go_ret
      exact ⟨by first | rfl | (simp; done), H6.out.2⟩
  · by_cases hq : lock < (ss : Int)
    · have hsd : decide (lock < (st : Int)) = false := decide_eq_false hs
      have hqd : decide (lock < (ss : Int)) = true := decide_eq_true hq
      have hw4 : IntKind.i64.wrap (1 + (st : Int) + lock) = 1 + (st : Int) + lock := lt_wrap _ (by omega)
      go_wp2_with fail
      refine (HSn.out (.inr (by omega)) _).mono ?_
      rintro e w6 ⟨rfl, hb2⟩
      have H4 := Lib.hid (And.intro (H3.out.1.below hb2 H3.out.1.lt) (H3.out.2.trans (hb2.mono H3.out.2.size)))
      clear hb2 d0 d1
      have d0 : w6.cell? ⟨lb, 0, none⟩ = some (.int .i64 (st : Nat)) := H4.out.1.cell 0
      have d1 : w6.cell? ⟨lb, 1, none⟩ = some (.int .i64 (ss : Nat)) := H4.out.1.cell 1
      go_wp2_with fail
      refine (HQy.out h0p hq _).mono ?_
      rintro e w7 ⟨rfl, hb2⟩
      have H5 := Lib.hid (And.intro (H4.out.1.below hb2 H4.out.1.lt) (H4.out.2.trans (hb2.mono H4.out.2.size)))
      clear hb2 d0 d1
      have d0 : w7.cell? ⟨lb, 0, none⟩ = some (.int .i64 (st : Nat)) := H5.out.1.cell 0
      have d1 : w7.cell? ⟨lb, 1, none⟩ = some (.int .i64 (ss : Nat)) := H5.out.1.cell 1
      go_wp2_with fail
      refine (HA.out _).mono ?_
      rintro e w8 ⟨rfl, hb2⟩
      have H6 := Lib.hid (And.intro (H5.out.1.below hb2 H5.out.1.lt) (H5.out.2.trans (hb2.mono H5.out.2.size)))
      clear hb2 d0 d1
      have d0 : w8.cell? ⟨lb, 0, none⟩ = some (.int .i64 (st : Nat)) := H6.out.1.cell 0
      have d1 : w8.cell? ⟨lb, 1, none⟩ = some (.int .i64 (ss : Nat)) := H6.out.1.cell 1
      go_wp2_with fail
      go_ret
      exact ⟨by first | rfl | (simp; done), H6.out.2⟩
    · have hsd : decide (lock < (st : Int)) = false := decide_eq_false hs
      have hqd : decide (lock < (ss : Int)) = false := decide_eq_false hq
      go_wp2_with fail
      refine (HSn.out (.inr (by omega)) _).mono ?_
      rintro e w6 ⟨rfl, hb2⟩
      have H4 := Lib.hid (And.intro (H3.out.1.below hb2 H3.out.1.lt) (H3.out.2.trans (hb2.mono H3.out.2.size)))
      clear hb2 d0 d1
      have d0 : w6.cell? ⟨lb, 0, none⟩ = some (.int .i64 (st : Nat)) := H4.out.1.cell 0
      have d1 : w6.cell? ⟨lb, 1, none⟩ = some (.int .i64 (ss : Nat)) := H4.out.1.cell 1
      go_wp2_with fail
      refine (HQn.out (.inr (by omega)) _).mono ?_
      rintro e w7 ⟨rfl, hb2⟩
      have H5 := Lib.hid (And.intro (H4.out.1.below hb2 H4.out.1.lt) (H4.out.2.trans (hb2.mono H4.out.2.size)))
      clear hb2 d0 d1
      have d0 : w7.cell? ⟨lb, 0, none⟩ = some (.int .i64 (st : Nat)) := H5.out.1.cell 0
      have d1 : w7.cell? ⟨lb, 1, none⟩ = some (.int .i64 (ss : Nat)) := H5.out.1.cell 1
      go_wp2_with fail
      refine (HA.out _).mono ?_
      rintro e w8 ⟨rfl, hb2⟩
      have H6 := Lib.hid (And.intro (H5.out.1.below hb2 H5.out.1.lt) (H5.out.2.trans (hb2.mono H5.out.2.size)))
      clear hb2 d0 d1
      have d0 : w8.cell? ⟨lb, 0, none⟩ = some (.int .i64 (st : Nat)) := H6.out.1.cell 0
      have d1 : w8.cell? ⟨lb, 1, none⟩ = some (.int .i64 (ss : Nat)) := H6.out.1.cell 1
      go_wp2_with fail
      go_ret
      exact ⟨by first | rfl | (simp; done), H6.out.2⟩
end Go.Proofs.YtamholmjppgfiaaGreatDoor
