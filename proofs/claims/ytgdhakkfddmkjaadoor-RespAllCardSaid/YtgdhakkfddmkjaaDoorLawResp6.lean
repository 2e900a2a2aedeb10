/- The walk of the law RespAll. -/
import Derived.Test.YtgdhakkfddmkjaaDoorJ13
import Derived.Test.YtgdhakkfddmkjaaDoorJ30
import Derived.Test.YtgdhakkfddmkjaaDoorJ27
set_option linter.unusedVariables false
set_option linter.unusedSimpArgs false
namespace Go.Proofs.YtgdhakkfddmkjaaDoor
open Go.RowKit

theorem retB_bys {W W' : World} {l : List UInt8} {e : Ending} (h : RetB W l e W') : ∃ pv cv, e = .returned (.slice pv l.length cv) ∧ Bys W' W'.heap.size pv l ∧ Below W.heap.size W W' := by
  obtain ⟨v, rfl, hb, hbl⟩ := h
  obtain ⟨pv, cv, rfl, -, hby⟩ := hb.bys
  exact ⟨pv, cv, rfl, hby, hbl⟩

set_option maxRecDepth 100000 in
set_option maxHeartbeats 6400000 in
theorem all_core (p : Option Addr) (n c m : Nat) (ki : Int) (w : World) (few : Bool) (la l1 l2 : List UInt8) (hn : n ≤ 9223372036854775807) (hnc : n ≤ c) (hcm : c ≤ 9223372036854775807) (hki0 : 0 ≤ ki) (hki1 : ki < 256) (hm : ki.tmod ((n : Int) + 1) = (m : Int)) (hmn : m ≤ n) (hla : la = l1 ++ l2) (hll : few = true → la.length ≤ 1000000) (hfn : few = true → n ≤ 60)
    (hfw : Calls Tryd.prog 9 #[.slice p n c] w fun e w' => e = .returned (.bool few) ∧ w = w')
    (hal : ∀ W, Below w.heap.size w W → Calls Tryd.prog 10 #[] W fun e w' => e = .returned (.bool true) ∧ Below W.heap.size W w')
    (hall : few = true → ∀ W, Below w.heap.size w W → Calls Tryd.prog 23 #[.slice p n c] W (RetB W la))
    (hrall : few = true → ∀ W, Below w.heap.size w W → Calls Tryd.prog 24 #[.slice p n c] W (RetB W la))
    (hall1 : few = true → ∀ W, Below w.heap.size w W → Calls Tryd.prog 23 #[.slice p m c] W (RetB W l1))
    (hall2 : few = true → ∀ W, Below w.heap.size w W → Calls Tryd.prog 23 #[.slice (if c = m then p else p.map (·.add (m * 10))) (n - m) (c - m)] W (RetB W l2)) :
    Calls Tryd.prog 8 #[.slice p n c, .int .u8 ki] w fun e w' => e = .returned (.bool true) ∧ Below w.heap.size w w' := by
  have HFW := Lib.hid hfw
  have HAL := Lib.hid hal
  have HALL := Lib.hid (fun h W hW => (hall h W hW).mono fun e w' k => retB_bys k)
  have HRALL := Lib.hid (fun h W hW => (hrall h W hW).mono fun e w' k => retB_bys k)
  have HALL1 := Lib.hid (fun h W hW => (hall1 h W hW).mono fun e w' k => retB_bys k)
  have HALL2 := Lib.hid (fun h W hW => (hall2 h W hW).mono fun e w' k => retB_bys k)
  have HLA := Lib.hid hla
  have HLL := Lib.hid hll
  have HFN := Lib.hid hfn
  have hmc : m ≤ c := Nat.le_trans hmn hnc
  have hwk : IntKind.i64.wrap ki = ki := IntWalk.i64_in _ (by omega)
  have hwm : IntKind.i64.wrap (m : Int) = (m : Int) := IntWalk.i64_in _ (by omega)
  clear hfw hal hall hrall hall1 hall2 hla hll hfn hki0 hki1
  cases few with
  | false =>
    go_enter Tryd.func8, Tryd.ntmps8
    go_wp2_with fail
    refine HFW.out.mono ?_
    rintro e w1 ⟨rfl, rfl⟩
    go_wp2_with fail
    refine (HAL.out _ (Below.refl _ _)).mono ?_
    rintro e w1 ⟨rfl, hb⟩
    have HB := Lib.hid hb
    clear hb
    go_wp2_with fail
    go_ret
    exact ⟨rfl, HB.out⟩
  | true =>
    replace HALL := Lib.hid (HALL.out rfl)
    replace HRALL := Lib.hid (HRALL.out rfl)
    replace HALL1 := Lib.hid (HALL1.out rfl)
    replace HALL2 := Lib.hid (HALL2.out rfl)
    replace HLL := Lib.hid (HLL.out rfl)
    have hn60 := HFN.out rfl
    have hwn : IntKind.i64.wrap ((n : Int) + 1) = (n : Int) + 1 := IntWalk.i64_in _ (by omega)
    go_enter Tryd.func8, Tryd.ntmps8
    go_wp2_with fail
    refine HFW.out.mono ?_
    rintro e w1 ⟨rfl, rfl⟩
    go_upto_region 4 with fail
    refine wp_region_any (by kernel_rfl) ?_
    change wpAny _ _ _ _ _ _ _ (World.drew _)
    refine wpAny_ready (rs := [0]) (by kernel_rfl) (by simp) ?_
    refine AllReady.cons rfl (fun K hK => ?_) AllReady.nil
    try simp only [List.getElem_toArray, List.getElem_cons_zero, List.getElem_cons_succ]
    go_simp
    refine (HAL.out _ (Below.drew (Below.refl _ _))).mono ?_
    rintro e w1 ⟨rfl, hb1⟩
    have H1 : Hid (Below w.heap.size w w1) := Lib.hid (below_call (Below.drew (Below.refl _ _)) hb1)
    clear hb1
    first | (with_reducible refine hK _ _ ?_; clear hK K) | (go_wp2_with fail)
    try simp only [List.getElem_toArray, List.getElem_cons_zero, List.getElem_cons_succ, Act.put, List.setIfInBounds_toArray, List.set_cons_zero, List.set_cons_succ]
    refine wpAny_take (i := 1) (v := ?_) rfl (by kernel_rfl) (by kernel_rfl) (by kernel_rfl) (fun _ _ _ h => h) (Or.inl ⟨by rfl, ?_⟩) ?_
    rotate_left
    · intro w; go_simp
      try with_reducible rfl
    try simp only [List.getElem_toArray, List.getElem_cons_zero, List.getElem_cons_succ, Act.put, List.setIfInBounds_toArray, List.set_cons_zero, List.set_cons_succ]
    refine wpAny_take (i := 2) (v := ?_) rfl (by kernel_rfl) (by kernel_rfl) (by kernel_rfl) (fun _ _ _ h => h) (Or.inl ⟨by rfl, ?_⟩) ?_
    rotate_left
    · intro w; go_simp
      try with_reducible rfl
    try simp only [List.getElem_toArray, List.getElem_cons_zero, List.getElem_cons_succ, Act.put, List.setIfInBounds_toArray, List.set_cons_zero, List.set_cons_succ]
    refine wpAny_take (i := 4) (v := ?_) rfl (by kernel_rfl) (by kernel_rfl) (by kernel_rfl) (fun _ _ _ h => h) (Or.inl ⟨by rfl, ?_⟩) ?_
    rotate_left
    · intro w; go_simp
      try with_reducible rfl
    try simp only [List.getElem_toArray, List.getElem_cons_zero, List.getElem_cons_succ, Act.put, List.setIfInBounds_toArray, List.set_cons_zero, List.set_cons_succ]
    refine wpAny_ready (rs := [3]) (by kernel_rfl) (by simp) ?_
    refine AllReady.cons rfl (fun K hK => ?_) AllReady.nil
    try simp only [List.getElem_toArray, List.getElem_cons_zero, List.getElem_cons_succ]
    go_simp
    refine (HALL.out _ H1.out).mono ?_
    rintro e w2 ⟨pv2, cv2, rfl, hby2, hb2⟩
    have H2 : Hid (Below w.heap.size w w2 ∧ Bys w2 w2.heap.size pv2 la) := Lib.hid ⟨below_call H1.out hb2, hby2⟩
    clear hb2 hby2
    first | (with_reducible refine hK _ _ ?_; clear hK K) | (go_wp2_with fail)
    try simp only [List.getElem_toArray, List.getElem_cons_zero, List.getElem_cons_succ, Act.put, List.setIfInBounds_toArray, List.set_cons_zero, List.set_cons_succ]
    refine wpAny_ready (rs := [5]) (by kernel_rfl) (by simp) ?_
    refine AllReady.cons rfl (fun K hK => ?_) AllReady.nil
    try simp only [List.getElem_toArray, List.getElem_cons_zero, List.getElem_cons_succ]
    go_simp
    refine (HRALL.out _ H2.out.1).mono ?_
    rintro e w3 ⟨pv3, cv3, rfl, hby3, hb3⟩
    have H3 : Hid (Below w.heap.size w w3 ∧ Bys w3 w3.heap.size pv2 la ∧ Bys w3 w3.heap.size pv3 la) := Lib.hid ⟨below_call H2.out.1 hb3, (H2.out.2.below hb3).more hb3.size, hby3⟩
    clear hb3 hby3
    first | (with_reducible refine hK _ _ ?_; clear hK K) | (go_wp2_with fail)
    try simp only [List.getElem_toArray, List.getElem_cons_zero, List.getElem_cons_succ, Act.put, List.setIfInBounds_toArray, List.set_cons_zero, List.set_cons_succ]
    refine wpAny_ready (rs := [6]) (by kernel_rfl) (by simp) ?_
    refine AllReady.cons rfl (fun K hK => ?_) AllReady.nil
    try simp only [List.getElem_toArray, List.getElem_cons_zero, List.getElem_cons_succ]
    go_simp
    refine (equal_any pv2 pv3 cv2 cv3 la la _ _ _ H3.out.2.1 H3.out.2.2 (by have := HLL.out; omega) (by have := HLL.out; omega)).mono ?_
    rw [decide_eq_true (rfl : la = la)]
    rintro e w4 ⟨rfl, hb4⟩
    have H4 : Hid (Below w.heap.size w w4) := Lib.hid (below_call H3.out.1 hb4)
    clear hb4
    first | (with_reducible refine hK _ _ ?_; clear hK K) | (go_wp2_with fail)
    try simp only [List.getElem_toArray, List.getElem_cons_zero, List.getElem_cons_succ, Act.put, List.setIfInBounds_toArray, List.set_cons_zero, List.set_cons_succ]
    refine wpAny_take (i := 7) (v := ?_) rfl (by kernel_rfl) (by kernel_rfl) (by kernel_rfl) (fun _ _ _ h => h) (Or.inl ⟨by rfl, ?_⟩) ?_
    rotate_left
    · intro w; go_simp
      try with_reducible rfl
    try simp only [List.getElem_toArray, List.getElem_cons_zero, List.getElem_cons_succ, Act.put, List.setIfInBounds_toArray, List.set_cons_zero, List.set_cons_succ]
    refine wpAny_take (i := 8) (v := ?_) rfl (by kernel_rfl) (by kernel_rfl) (by kernel_rfl) (fun _ _ _ h => h) (Or.inl ⟨by rfl, ?_⟩) ?_
    rotate_left
    · intro w; go_simp
      try with_reducible rfl
    try simp only [List.getElem_toArray, List.getElem_cons_zero, List.getElem_cons_succ, Act.put, List.setIfInBounds_toArray, List.set_cons_zero, List.set_cons_succ]
    refine wpAny_take (i := 9) (v := ?_) rfl (by kernel_rfl) (by kernel_rfl) (by kernel_rfl) (fun _ _ _ h => h) (Or.inl ⟨by rfl, ?_⟩) ?_
    rotate_left
    · intro w; go_simp
      try with_reducible rfl
    try simp only [List.getElem_toArray, List.getElem_cons_zero, List.getElem_cons_succ, Act.put, List.setIfInBounds_toArray, List.set_cons_zero, List.set_cons_succ]
    refine wpAny_take (i := 10) (v := ?_) rfl (by kernel_rfl) (by kernel_rfl) (by kernel_rfl) (fun _ _ _ h => h) (Or.inl ⟨by rfl, ?_⟩) ?_
    rotate_left
    · intro w; go_simp
      try with_reducible rfl
    try simp only [List.getElem_toArray, List.getElem_cons_zero, List.getElem_cons_succ, Act.put, List.setIfInBounds_toArray, List.set_cons_zero, List.set_cons_succ]
    refine wpAny_take (i := 13) (v := ?_) rfl (by kernel_rfl) (by kernel_rfl) (by kernel_rfl) (fun _ _ _ h => h) (Or.inl ⟨by rfl, ?_⟩) ?_
    rotate_left
    · intro w; go_simp
      try with_reducible rfl
    try simp only [List.getElem_toArray, List.getElem_cons_zero, List.getElem_cons_succ, Act.put, List.setIfInBounds_toArray, List.set_cons_zero, List.set_cons_succ]
    refine wpAny_take (i := 14) (v := ?_) rfl (by kernel_rfl) (by kernel_rfl) (by kernel_rfl) (fun _ _ _ h => h) (Or.inl ⟨by rfl, ?_⟩) ?_
    rotate_left
    · intro w; go_simp
      try with_reducible rfl
    try simp only [List.getElem_toArray, List.getElem_cons_zero, List.getElem_cons_succ, Act.put, List.setIfInBounds_toArray, List.set_cons_zero, List.set_cons_succ]
    refine wpAny_take (i := 19) (v := ?_) rfl (by kernel_rfl) (by kernel_rfl) (by kernel_rfl) (fun _ _ _ h => h) (Or.inl ⟨by rfl, ?_⟩) ?_
    rotate_left
    · intro w; go_simp
      try with_reducible rfl
    try simp only [List.getElem_toArray, List.getElem_cons_zero, List.getElem_cons_succ, Act.put, List.setIfInBounds_toArray, List.set_cons_zero, List.set_cons_succ]
    refine wpAny_ready (rs := [11, 15]) (by kernel_rfl) (by simp) ?_
    refine AllReady.cons rfl (fun K hK => ?_) (AllReady.cons rfl (fun K hK => ?_) AllReady.nil)
    · try simp only [List.getElem_toArray, List.getElem_cons_zero, List.getElem_cons_succ]
      go_simp
      first | (with_reducible refine hK _ _ ?_; clear hK K) | (go_wp2_with fail)
      try simp only [List.getElem_toArray, List.getElem_cons_zero, List.getElem_cons_succ, Act.put, List.setIfInBounds_toArray, List.set_cons_zero, List.set_cons_succ]
      refine wpAny_ready (rs := [12, 15]) (by kernel_rfl) (by simp) ?_
      refine AllReady.cons rfl (fun K hK => ?_) (AllReady.cons rfl (fun K hK => ?_) AllReady.nil)
      · try simp only [List.getElem_toArray, List.getElem_cons_zero, List.getElem_cons_succ]
        go_simp
        refine (HALL1.out _ H4.out).mono ?_
        rintro e w5 ⟨pv5, cv5, rfl, hby5, hb5⟩
        have H5 : Hid (Below w.heap.size w w5 ∧ Bys w5 w5.heap.size pv5 l1) := Lib.hid ⟨below_call H4.out hb5, hby5⟩
        clear hb5 hby5
        first | (with_reducible refine hK _ _ ?_; clear hK K) | (go_wp2_with fail)
        try simp only [List.getElem_toArray, List.getElem_cons_zero, List.getElem_cons_succ, Act.put, List.setIfInBounds_toArray, List.set_cons_zero, List.set_cons_succ]
        refine wpAny_ready (rs := [15]) (by kernel_rfl) (by simp) ?_
        refine AllReady.cons rfl (fun K hK => ?_) AllReady.nil
        try simp only [List.getElem_toArray, List.getElem_cons_zero, List.getElem_cons_succ]
        go_simp
        first | (with_reducible refine hK _ _ ?_; clear hK K) | (go_wp2_with fail)
        try simp only [List.getElem_toArray, List.getElem_cons_zero, List.getElem_cons_succ, Act.put, List.setIfInBounds_toArray, List.set_cons_zero, List.set_cons_succ]
        refine wpAny_ready (rs := [16]) (by kernel_rfl) (by simp) ?_
        refine AllReady.cons rfl (fun K hK => ?_) AllReady.nil
        try simp only [List.getElem_toArray, List.getElem_cons_zero, List.getElem_cons_succ]
        go_simp
        refine (HALL2.out _ H5.out.1).mono ?_
        rintro e w6 ⟨pv6, cv6, rfl, hby6, hb6⟩
        have H6 : Hid (Below w.heap.size w w6 ∧ Bys w6 w6.heap.size pv5 l1 ∧ Bys w6 w6.heap.size pv6 l2) := Lib.hid ⟨below_call H5.out.1 hb6, (H5.out.2.below hb6).more hb6.size, hby6⟩
        clear hb6 hby6
        first | (with_reducible refine hK _ _ ?_; clear hK K) | (go_wp2_with fail)
        try simp only [List.getElem_toArray, List.getElem_cons_zero, List.getElem_cons_succ, Act.put, List.setIfInBounds_toArray, List.set_cons_zero, List.set_cons_succ]
        refine wpAny_ready (rs := [17]) (by kernel_rfl) (by simp) ?_
        refine AllReady.cons rfl (fun K hK => ?_) AllReady.nil
        try simp only [List.getElem_toArray, List.getElem_cons_zero, List.getElem_cons_succ]
        go_simp
        first | (with_reducible refine hK _ _ ?_; clear hK K) | (go_wp2_with fail)
        try simp only [List.getElem_toArray, List.getElem_cons_zero, List.getElem_cons_succ, Act.put, List.setIfInBounds_toArray, List.set_cons_zero, List.set_cons_succ]
        refine wpAny_ready (rs := [18]) (by kernel_rfl) (by simp) ?_
        refine AllReady.cons rfl (fun K hK => ?_) AllReady.nil
        try simp only [List.getElem_toArray, List.getElem_cons_zero, List.getElem_cons_succ]
        go_simp
        refine (concat2 w6 pv5 pv6 cv5 cv6 l1 l2 H6.out.2.1 H6.out.2.2 (by have := HLL.out; rw [HLA.out, List.length_append] at this; omega)).mono ?_
        rw [← HLA.out]
        rintro e w7 hret7
        obtain ⟨pv7, cv7, rfl, hby7, hb7⟩ := retB_bys hret7
        have H7 : Hid (Below w.heap.size w w7 ∧ Bys w7 w7.heap.size pv7 la) := Lib.hid ⟨below_call (below_new H6.out.1 _) hb7, hby7⟩
        clear hret7 hb7 hby7
        first | (with_reducible refine hK _ _ ?_; clear hK K) | (go_wp2_with fail)
        try simp only [List.getElem_toArray, List.getElem_cons_zero, List.getElem_cons_succ, Act.put, List.setIfInBounds_toArray, List.set_cons_zero, List.set_cons_succ]
        refine wpAny_ready (rs := [20]) (by kernel_rfl) (by simp) ?_
        refine AllReady.cons rfl (fun K hK => ?_) AllReady.nil
        try simp only [List.getElem_toArray, List.getElem_cons_zero, List.getElem_cons_succ]
        go_simp
        refine (HRALL.out _ H7.out.1).mono ?_
        rintro e w8 ⟨pv8, cv8, rfl, hby8, hb8⟩
        have H8 : Hid (Below w.heap.size w w8 ∧ Bys w8 w8.heap.size pv7 la ∧ Bys w8 w8.heap.size pv8 la) := Lib.hid ⟨below_call H7.out.1 hb8, (H7.out.2.below hb8).more hb8.size, hby8⟩
        clear hb8 hby8
        first | (with_reducible refine hK _ _ ?_; clear hK K) | (go_wp2_with fail)
        try simp only [List.getElem_toArray, List.getElem_cons_zero, List.getElem_cons_succ, Act.put, List.setIfInBounds_toArray, List.set_cons_zero, List.set_cons_succ]
        refine wpAny_ready (rs := [21]) (by kernel_rfl) (by simp) ?_
        refine AllReady.cons rfl (fun K hK => ?_) AllReady.nil
        try simp only [List.getElem_toArray, List.getElem_cons_zero, List.getElem_cons_succ]
        go_simp
        refine (equal_any pv7 pv8 cv7 cv8 la la _ _ _ H8.out.2.1 H8.out.2.2 (by have := HLL.out; omega) (by have := HLL.out; omega)).mono ?_
        rw [decide_eq_true (rfl : la = la)]
        rintro e w9 ⟨rfl, hb9⟩
        have H9 : Hid (Below w.heap.size w w9) := Lib.hid (below_call H8.out.1 hb9)
        clear hb9
        first | (with_reducible refine hK _ _ ?_; clear hK K) | (go_wp2_with fail)
        try simp only [List.getElem_toArray, List.getElem_cons_zero, List.getElem_cons_succ, Act.put, List.setIfInBounds_toArray, List.set_cons_zero, List.set_cons_succ]
        refine wpAny_take (i := 22) (v := ?_) rfl (by kernel_rfl) (by kernel_rfl) (by kernel_rfl) (fun _ _ _ h => h) (Or.inl ⟨by rfl, ?_⟩) ?_
        rotate_left
        · intro w; go_simp
          try with_reducible rfl
        try simp only [List.getElem_toArray, List.getElem_cons_zero, List.getElem_cons_succ, Act.put, List.setIfInBounds_toArray, List.set_cons_zero, List.set_cons_succ]
        refine wpAny_take (i := 23) (v := ?_) rfl (by kernel_rfl) (by kernel_rfl) (by kernel_rfl) (fun _ _ _ h => h) (Or.inl ⟨by rfl, ?_⟩) ?_
        rotate_left
        · intro w; go_simp
          try with_reducible rfl
        try simp only [List.getElem_toArray, List.getElem_cons_zero, List.getElem_cons_succ, Act.put, List.setIfInBounds_toArray, List.set_cons_zero, List.set_cons_succ]
        refine wpAny_done (by kernel_rfl) ?_ _
        go_wp2_with fail
        all_goals (go_ret; exact ⟨rfl, H9.out⟩)
      · try simp only [List.getElem_toArray, List.getElem_cons_zero, List.getElem_cons_succ]
        go_simp
        first | (with_reducible refine hK _ _ ?_; clear hK K) | (go_wp2_with fail)
        try simp only [List.getElem_toArray, List.getElem_cons_zero, List.getElem_cons_succ, Act.put, List.setIfInBounds_toArray, List.set_cons_zero, List.set_cons_succ]
        refine wpAny_ready (rs := [12]) (by kernel_rfl) (by simp) ?_
        refine AllReady.cons rfl (fun K hK => ?_) AllReady.nil
        try simp only [List.getElem_toArray, List.getElem_cons_zero, List.getElem_cons_succ]
        go_simp
        refine (HALL1.out _ H4.out).mono ?_
        rintro e w5 ⟨pv5, cv5, rfl, hby5, hb5⟩
        have H5 : Hid (Below w.heap.size w w5 ∧ Bys w5 w5.heap.size pv5 l1) := Lib.hid ⟨below_call H4.out hb5, hby5⟩
        clear hb5 hby5
        first | (with_reducible refine hK _ _ ?_; clear hK K) | (go_wp2_with fail)
        try simp only [List.getElem_toArray, List.getElem_cons_zero, List.getElem_cons_succ, Act.put, List.setIfInBounds_toArray, List.set_cons_zero, List.set_cons_succ]
        refine wpAny_ready (rs := [16]) (by kernel_rfl) (by simp) ?_
        refine AllReady.cons rfl (fun K hK => ?_) AllReady.nil
        try simp only [List.getElem_toArray, List.getElem_cons_zero, List.getElem_cons_succ]
        go_simp
        refine (HALL2.out _ H5.out.1).mono ?_
        rintro e w6 ⟨pv6, cv6, rfl, hby6, hb6⟩
        have H6 : Hid (Below w.heap.size w w6 ∧ Bys w6 w6.heap.size pv5 l1 ∧ Bys w6 w6.heap.size pv6 l2) := Lib.hid ⟨below_call H5.out.1 hb6, (H5.out.2.below hb6).more hb6.size, hby6⟩
        clear hb6 hby6
        first | (with_reducible refine hK _ _ ?_; clear hK K) | (go_wp2_with fail)
        try simp only [List.getElem_toArray, List.getElem_cons_zero, List.getElem_cons_succ, Act.put, List.setIfInBounds_toArray, List.set_cons_zero, List.set_cons_succ]
        refine wpAny_ready (rs := [17]) (by kernel_rfl) (by simp) ?_
        refine AllReady.cons rfl (fun K hK => ?_) AllReady.nil
        try simp only [List.getElem_toArray, List.getElem_cons_zero, List.getElem_cons_succ]
        go_simp
        first | (with_reducible refine hK _ _ ?_; clear hK K) | (go_wp2_with fail)
        try simp only [List.getElem_toArray, List.getElem_cons_zero, List.getElem_cons_succ, Act.put, List.setIfInBounds_toArray, List.set_cons_zero, List.set_cons_succ]
        refine wpAny_ready (rs := [18]) (by kernel_rfl) (by simp) ?_
        refine AllReady.cons rfl (fun K hK => ?_) AllReady.nil
        try simp only [List.getElem_toArray, List.getElem_cons_zero, List.getElem_cons_succ]
        go_simp
        refine (concat2 w6 pv5 pv6 cv5 cv6 l1 l2 H6.out.2.1 H6.out.2.2 (by have := HLL.out; rw [HLA.out, List.length_append] at this; omega)).mono ?_
        rw [← HLA.out]
        rintro e w7 hret7
        obtain ⟨pv7, cv7, rfl, hby7, hb7⟩ := retB_bys hret7
        have H7 : Hid (Below w.heap.size w w7 ∧ Bys w7 w7.heap.size pv7 la) := Lib.hid ⟨below_call (below_new H6.out.1 _) hb7, hby7⟩
        clear hret7 hb7 hby7
        first | (with_reducible refine hK _ _ ?_; clear hK K) | (go_wp2_with fail)
        try simp only [List.getElem_toArray, List.getElem_cons_zero, List.getElem_cons_succ, Act.put, List.setIfInBounds_toArray, List.set_cons_zero, List.set_cons_succ]
        refine wpAny_ready (rs := [20]) (by kernel_rfl) (by simp) ?_
        refine AllReady.cons rfl (fun K hK => ?_) AllReady.nil
        try simp only [List.getElem_toArray, List.getElem_cons_zero, List.getElem_cons_succ]
        go_simp
        refine (HRALL.out _ H7.out.1).mono ?_
        rintro e w8 ⟨pv8, cv8, rfl, hby8, hb8⟩
        have H8 : Hid (Below w.heap.size w w8 ∧ Bys w8 w8.heap.size pv7 la ∧ Bys w8 w8.heap.size pv8 la) := Lib.hid ⟨below_call H7.out.1 hb8, (H7.out.2.below hb8).more hb8.size, hby8⟩
        clear hb8 hby8
        first | (with_reducible refine hK _ _ ?_; clear hK K) | (go_wp2_with fail)
        try simp only [List.getElem_toArray, List.getElem_cons_zero, List.getElem_cons_succ, Act.put, List.setIfInBounds_toArray, List.set_cons_zero, List.set_cons_succ]
        refine wpAny_ready (rs := [21]) (by kernel_rfl) (by simp) ?_
        refine AllReady.cons rfl (fun K hK => ?_) AllReady.nil
        try simp only [List.getElem_toArray, List.getElem_cons_zero, List.getElem_cons_succ]
        go_simp
        refine (equal_any pv7 pv8 cv7 cv8 la la _ _ _ H8.out.2.1 H8.out.2.2 (by have := HLL.out; omega) (by have := HLL.out; omega)).mono ?_
        rw [decide_eq_true (rfl : la = la)]
        rintro e w9 ⟨rfl, hb9⟩
        have H9 : Hid (Below w.heap.size w w9) := Lib.hid (below_call H8.out.1 hb9)
        clear hb9
        first | (with_reducible refine hK _ _ ?_; clear hK K) | (go_wp2_with fail)
        try simp only [List.getElem_toArray, List.getElem_cons_zero, List.getElem_cons_succ, Act.put, List.setIfInBounds_toArray, List.set_cons_zero, List.set_cons_succ]
        refine wpAny_take (i := 22) (v := ?_) rfl (by kernel_rfl) (by kernel_rfl) (by kernel_rfl) (fun _ _ _ h => h) (Or.inl ⟨by rfl, ?_⟩) ?_
        rotate_left
        · intro w; go_simp
          try with_reducible rfl
        try simp only [List.getElem_toArray, List.getElem_cons_zero, List.getElem_cons_succ, Act.put, List.setIfInBounds_toArray, List.set_cons_zero, List.set_cons_succ]
        refine wpAny_take (i := 23) (v := ?_) rfl (by kernel_rfl) (by kernel_rfl) (by kernel_rfl) (fun _ _ _ h => h) (Or.inl ⟨by rfl, ?_⟩) ?_
        rotate_left
        · intro w; go_simp
          try with_reducible rfl
        try simp only [List.getElem_toArray, List.getElem_cons_zero, List.getElem_cons_succ, Act.put, List.setIfInBounds_toArray, List.set_cons_zero, List.set_cons_succ]
        refine wpAny_done (by kernel_rfl) ?_ _
        go_wp2_with fail
        all_goals (go_ret; exact ⟨rfl, H9.out⟩)
    · try simp only [List.getElem_toArray, List.getElem_cons_zero, List.getElem_cons_succ]
      go_simp
      first | (with_reducible refine hK _ _ ?_; clear hK K) | (go_wp2_with fail)
      try simp only [List.getElem_toArray, List.getElem_cons_zero, List.getElem_cons_succ, Act.put, List.setIfInBounds_toArray, List.set_cons_zero, List.set_cons_succ]
      refine wpAny_ready (rs := [11]) (by kernel_rfl) (by simp) ?_
      refine AllReady.cons rfl (fun K hK => ?_) AllReady.nil
      try simp only [List.getElem_toArray, List.getElem_cons_zero, List.getElem_cons_succ]
      go_simp
      first | (with_reducible refine hK _ _ ?_; clear hK K) | (go_wp2_with fail)
      try simp only [List.getElem_toArray, List.getElem_cons_zero, List.getElem_cons_succ, Act.put, List.setIfInBounds_toArray, List.set_cons_zero, List.set_cons_succ]
      refine wpAny_ready (rs := [12]) (by kernel_rfl) (by simp) ?_
      refine AllReady.cons rfl (fun K hK => ?_) AllReady.nil
      try simp only [List.getElem_toArray, List.getElem_cons_zero, List.getElem_cons_succ]
      go_simp
      refine (HALL1.out _ H4.out).mono ?_
      rintro e w5 ⟨pv5, cv5, rfl, hby5, hb5⟩
      have H5 : Hid (Below w.heap.size w w5 ∧ Bys w5 w5.heap.size pv5 l1) := Lib.hid ⟨below_call H4.out hb5, hby5⟩
      clear hb5 hby5
      first | (with_reducible refine hK _ _ ?_; clear hK K) | (go_wp2_with fail)
      try simp only [List.getElem_toArray, List.getElem_cons_zero, List.getElem_cons_succ, Act.put, List.setIfInBounds_toArray, List.set_cons_zero, List.set_cons_succ]
      refine wpAny_ready (rs := [16]) (by kernel_rfl) (by simp) ?_
      refine AllReady.cons rfl (fun K hK => ?_) AllReady.nil
      try simp only [List.getElem_toArray, List.getElem_cons_zero, List.getElem_cons_succ]
      go_simp
      refine (HALL2.out _ H5.out.1).mono ?_
      rintro e w6 ⟨pv6, cv6, rfl, hby6, hb6⟩
      have H6 : Hid (Below w.heap.size w w6 ∧ Bys w6 w6.heap.size pv5 l1 ∧ Bys w6 w6.heap.size pv6 l2) := Lib.hid ⟨below_call H5.out.1 hb6, (H5.out.2.below hb6).more hb6.size, hby6⟩
      clear hb6 hby6
      first | (with_reducible refine hK _ _ ?_; clear hK K) | (go_wp2_with fail)
      try simp only [List.getElem_toArray, List.getElem_cons_zero, List.getElem_cons_succ, Act.put, List.setIfInBounds_toArray, List.set_cons_zero, List.set_cons_succ]
      refine wpAny_ready (rs := [17]) (by kernel_rfl) (by simp) ?_
      refine AllReady.cons rfl (fun K hK => ?_) AllReady.nil
      try simp only [List.getElem_toArray, List.getElem_cons_zero, List.getElem_cons_succ]
      go_simp
      first | (with_reducible refine hK _ _ ?_; clear hK K) | (go_wp2_with fail)
      try simp only [List.getElem_toArray, List.getElem_cons_zero, List.getElem_cons_succ, Act.put, List.setIfInBounds_toArray, List.set_cons_zero, List.set_cons_succ]
      refine wpAny_ready (rs := [18]) (by kernel_rfl) (by simp) ?_
      refine AllReady.cons rfl (fun K hK => ?_) AllReady.nil
      try simp only [List.getElem_toArray, List.getElem_cons_zero, List.getElem_cons_succ]
      go_simp
      refine (concat2 w6 pv5 pv6 cv5 cv6 l1 l2 H6.out.2.1 H6.out.2.2 (by have := HLL.out; rw [HLA.out, List.length_append] at this; omega)).mono ?_
      rw [← HLA.out]
      rintro e w7 hret7
      obtain ⟨pv7, cv7, rfl, hby7, hb7⟩ := retB_bys hret7
      have H7 : Hid (Below w.heap.size w w7 ∧ Bys w7 w7.heap.size pv7 la) := Lib.hid ⟨below_call (below_new H6.out.1 _) hb7, hby7⟩
      clear hret7 hb7 hby7
      first | (with_reducible refine hK _ _ ?_; clear hK K) | (go_wp2_with fail)
      try simp only [List.getElem_toArray, List.getElem_cons_zero, List.getElem_cons_succ, Act.put, List.setIfInBounds_toArray, List.set_cons_zero, List.set_cons_succ]
      refine wpAny_ready (rs := [20]) (by kernel_rfl) (by simp) ?_
      refine AllReady.cons rfl (fun K hK => ?_) AllReady.nil
      try simp only [List.getElem_toArray, List.getElem_cons_zero, List.getElem_cons_succ]
      go_simp
      refine (HRALL.out _ H7.out.1).mono ?_
      rintro e w8 ⟨pv8, cv8, rfl, hby8, hb8⟩
      have H8 : Hid (Below w.heap.size w w8 ∧ Bys w8 w8.heap.size pv7 la ∧ Bys w8 w8.heap.size pv8 la) := Lib.hid ⟨below_call H7.out.1 hb8, (H7.out.2.below hb8).more hb8.size, hby8⟩
      clear hb8 hby8
      first | (with_reducible refine hK _ _ ?_; clear hK K) | (go_wp2_with fail)
      try simp only [List.getElem_toArray, List.getElem_cons_zero, List.getElem_cons_succ, Act.put, List.setIfInBounds_toArray, List.set_cons_zero, List.set_cons_succ]
      refine wpAny_ready (rs := [21]) (by kernel_rfl) (by simp) ?_
      refine AllReady.cons rfl (fun K hK => ?_) AllReady.nil
      try simp only [List.getElem_toArray, List.getElem_cons_zero, List.getElem_cons_succ]
      go_simp
      refine (equal_any pv7 pv8 cv7 cv8 la la _ _ _ H8.out.2.1 H8.out.2.2 (by have := HLL.out; omega) (by have := HLL.out; omega)).mono ?_
      rw [decide_eq_true (rfl : la = la)]
      rintro e w9 ⟨rfl, hb9⟩
      have H9 : Hid (Below w.heap.size w w9) := Lib.hid (below_call H8.out.1 hb9)
      clear hb9
      first | (with_reducible refine hK _ _ ?_; clear hK K) | (go_wp2_with fail)
      try simp only [List.getElem_toArray, List.getElem_cons_zero, List.getElem_cons_succ, Act.put, List.setIfInBounds_toArray, List.set_cons_zero, List.set_cons_succ]
      refine wpAny_take (i := 22) (v := ?_) rfl (by kernel_rfl) (by kernel_rfl) (by kernel_rfl) (fun _ _ _ h => h) (Or.inl ⟨by rfl, ?_⟩) ?_
      rotate_left
      · intro w; go_simp
        try with_reducible rfl
      try simp only [List.getElem_toArray, List.getElem_cons_zero, List.getElem_cons_succ, Act.put, List.setIfInBounds_toArray, List.set_cons_zero, List.set_cons_succ]
      refine wpAny_take (i := 23) (v := ?_) rfl (by kernel_rfl) (by kernel_rfl) (by kernel_rfl) (fun _ _ _ h => h) (Or.inl ⟨by rfl, ?_⟩) ?_
      rotate_left
      · intro w; go_simp
        try with_reducible rfl
      try simp only [List.getElem_toArray, List.getElem_cons_zero, List.getElem_cons_succ, Act.put, List.setIfInBounds_toArray, List.set_cons_zero, List.set_cons_succ]
      refine wpAny_done (by kernel_rfl) ?_ _
      go_wp2_with fail
      all_goals (go_ret; exact ⟨rfl, H9.out⟩)
end Go.Proofs.YtgdhakkfddmkjaaDoor
