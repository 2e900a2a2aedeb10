/- The forms of a list of responses; a list of responses in memory. · The walk of resp.All. · The walk of the reference's All. · The walks of slices.Grow (on nil) and slices.Concat over bytes. -/
import Derived.Test.YtgdhakkfddmkjaaDoorJ11
import Derived.Test.YtgdhakkfddmkjaaDoorLawResp1
import Derived.Lib.AppendStr
import Derived.Test.YtgdhakkfddmkjaaDoorJ3
import Derived.Lib.AppendZeros
set_option linter.unusedVariables false
set_option linter.unusedSimpArgs false
namespace Go.Proofs.YtgdhakkfddmkjaaDoor
open Go.RowKit

noncomputable def oneF (r : Rsp) : List UInt8 := if vldB r = true then formR r else []
noncomputable def allF (L : List Rsp) : List UInt8 := (L.map oneF).flatten
theorem allF_app (A B : List Rsp) : allF (A ++ B) = allF A ++ allF B := by unfold allF; rw [List.map_append, List.flatten_append]
theorem allF_one (r : Rsp) : allF [r] = oneF r := by unfold allF; simp
theorem allF_next {L : List Rsp} {k : Nat} (h : k < L.length) : allF (L.take (k + 1)) = allF (L.take k) ++ oneF L[k] := by
  rw [List.take_succ_eq_append_getElem h, allF_app, allF_one]
theorem line_small (r : Rsp) (hr : RspOk r) (hs : smallR r = true) : (lineR r).length ≤ 3000 := by
  obtain ⟨o1, o2, o3, o4, o5, o6, o7⟩ := hr
  simp only [smallR, Bool.not_eq_true', Bool.or_eq_false_iff, decide_eq_false_iff_not] at hs
  have h1 := decDigits_len r.n (by omega)
  have h2 := decDigits_len r.uid (by omega)
  have h3 := decDigits_len r.size (by omega)
  have h4 := listF_le r.flags o2
  have h5 := litB_len r.body (by omega)
  have h6 := listF_le 31 (by decide)
  have hst : (stW r.status).length ≤ 3 := by unfold stW; split; decide; split <;> decide
  have hL : ∀ x ∈ wordsR r, x.length ≤ 600 := fun x hx => by
    unfold wordsR at hx
    rcases List.mem_append.1 hx with hx | hx
    · exact optW_len _ _ _ (by simp [wF]; omega) x hx
    · rcases List.mem_append.1 hx with hx | hx
      · exact optW_len _ _ _ (by simp [wU]; omega) x hx
      · rcases List.mem_append.1 hx with hx | hx
        · exact optW_len _ _ _ (by simp [wS]; omega) x hx
        · exact optW_len _ _ _ (by simp [wB]; omega) x hx
  have hLn : (wordsR r).length ≤ 4 := by
    have := optW_count (hasI r.items 1) (wF r); have := optW_count (hasI r.items 2) (wU r); have := optW_count (hasI r.items 4) (wS r); have := optW_count (hasI r.items 16) (wB r)
    simp only [wordsR, List.length_append]; omega
  have hj := joinF_len _ 600 hL
  have hj2 : (wordsR r).length * (600 + 1) ≤ 4 * (600 + 1) := Nat.mul_le_mul_right _ hLn
  unfold lineR
  repeat' split
  all_goals (simp only [List.length_append, List.length_cons, List.length_nil]; omega)
theorem oneF_small (r : Rsp) (hr : RspOk r) (hs : smallR r = true) : (oneF r).length ≤ 3002 := by
  unfold oneF
  have := line_small r hr hs
  split
  · simp only [formR, List.length_append, List.length_cons, List.length_nil]; omega
  · simp
theorem allF_len : ∀ L : List Rsp, (∀ r ∈ L, RspOk r ∧ smallR r = true) → (allF L).length ≤ L.length * 3002
  | [], _ => by simp [allF]
  | r :: L, h => by
    have h1 := allF_len L (fun x hx => h x (List.mem_cons_of_mem _ hx))
    have h2 := oneF_small r (h r (by simp)).1 (h r (by simp)).2
    have e : allF (r :: L) = oneF r ++ allF L := by unfold allF; simp
    rw [e, List.length_append, List.length_cons]; omega
/-- The responses lie at p. -/
def Rsps (W : World) (B : Nat) (p : Option Addr) (L : List Rsp) : Prop :=
  ∀ i (h : i < L.length), ∃ b o P c, p = some ⟨b, o, none⟩ ∧ b < B ∧ Bys W B P L[i].body ∧ L[i].body.length ≤ c ∧
    (W.cell? ⟨b, o + i * 10, none⟩ = some (.int .i64 L[i].kind) ∧ W.cell? ⟨b, o + i * 10 + 1, none⟩ = some (.int .u32 L[i].n) ∧ W.cell? ⟨b, o + i * 10 + 2, none⟩ = some (.string (ofL L[i].tag)) ∧ W.cell? ⟨b, o + i * 10 + 3, none⟩ = some (.int .i64 L[i].status) ∧ W.cell? ⟨b, o + i * 10 + 4, none⟩ = some (.string (ofL L[i].text)) ∧ W.cell? ⟨b, o + i * 10 + 5, none⟩ = some (.int .i64 L[i].items) ∧ W.cell? ⟨b, o + i * 10 + 6, none⟩ = some (.int .u8 L[i].flags) ∧ W.cell? ⟨b, o + i * 10 + 7, none⟩ = some (.int .u32 L[i].uid) ∧ W.cell? ⟨b, o + i * 10 + 8, none⟩ = some (.int .u32 L[i].size) ∧ W.cell? ⟨b, o + i * 10 + 9, none⟩ = some (.slice P L[i].body.length c))
theorem Rsps.below {W W' : World} {B C : Nat} {p : Option Addr} {L : List Rsp} (h : Rsps W B p L) (hb : Below C W W') (hC : B ≤ C) : Rsps W' B p L := fun i hi => by
  obtain ⟨b, o, P, c, e, hlt, hby, hc, k0, k1, k2, k3, k4, k5, k6, k7, k8, k9⟩ := h i hi
  refine ⟨b, o, P, c, e, hlt, hby.belowle hb hC, hc, ?_, ?_, ?_, ?_, ?_, ?_, ?_, ?_, ?_, ?_⟩
  all_goals rw [hb.cell (by show b < C; omega)]; assumption
theorem Rsps.more {W : World} {B C : Nat} {p : Option Addr} {L : List Rsp} (h : Rsps W B p L) (hB : B ≤ C) : Rsps W C p L := fun i hi => by
  obtain ⟨b, o, P, c, e, hlt, hby, hr⟩ := h i hi
  exact ⟨b, o, P, c, e, Nat.lt_of_lt_of_le hlt hB, hby.more hB, hr⟩
theorem Rsps.upto {W : World} {B : Nat} {p : Option Addr} {L : List Rsp} (h : Rsps W B p L) (m : Nat) : Rsps W B p (L.take m) := fun i hi => by
  have h1 : i < L.length := by rw [List.length_take] at hi; omega
  have e : (L.take m)[i] = L[i] := List.getElem_take
  rw [e]
  exact h i h1
theorem Rsps.from {W : World} {B : Nat} {p : Option Addr} {L : List Rsp} (h : Rsps W B p L) (m : Nat) : Rsps W B (p.map (·.add (m * 10))) (L.drop m) := fun i hi => by
  have h1 : m + i < L.length := by rw [List.length_drop] at hi; omega
  have e : (L.drop m)[i] = L[m + i] := List.getElem_drop
  obtain ⟨b, o, P, c, e1, hlt, hby, hc, k0, k1, k2, k3, k4, k5, k6, k7, k8, k9⟩ := h (m + i) h1
  rw [e]
  have ea : o + m * 10 + i * 10 = o + (m + i) * 10 := by omega
  refine ⟨b, o + m * 10, P, c, by rw [e1]; show some (Addr.add _ _) = _; rw [Go.WideShapes.add_plain], hlt, hby, hc, ?_, ?_, ?_, ?_, ?_, ?_, ?_, ?_, ?_, ?_⟩
  all_goals rw [ea]; assumption
theorem few_all {L : List Rsp} (h : fewB L = true) : (∀ r ∈ L, smallR r = true) ∧ L.length ≤ 60 := by
  simp only [fewB, Bool.and_eq_true, decide_eq_true_eq, List.all_eq_true] at h
  exact h
theorem few_any (p : Option Addr) (B c : Nat) (L : List Rsp) (w : World) (hR : Rsps w B p L) (hL : L.length ≤ 9223372036854775807) (hs : ∀ r ∈ L, r.tag.length ≤ maxLen ∧ r.text.length ≤ maxLen ∧ r.body.length ≤ maxLen) :
    Calls Tryd.prog 9 #[.slice p L.length c] w fun e w' => e = .returned (.bool (fewB L)) ∧ w = w' := by
  by_cases h0 : L.length = 0
  · rw [h0]
    obtain rfl := List.eq_nil_of_length_eq_zero h0
    exact few_nil p c w
  · obtain ⟨b, o, P, c', rfl, -⟩ := hR 0 (by omega)
    refine few_some b o c L w hL (fun i hi => hs _ (List.getElem_mem hi)) (fun i hi => ?_)
    obtain ⟨b2, o2, P2, c2, e, hlt, hby, hc, k0, k1, k2, k3, k4, k5, k6, k7, k8, k9⟩ := hR i hi
    injection e with e
    injection e with e1 e2
    subst e1 e2
    exact ⟨k2, k4, P2, c2, k9⟩
end Go.Proofs.YtgdhakkfddmkjaaDoor
namespace Go.Proofs.YtgdhakkfddmkjaaDoor
open Go.RowKit

set_option maxRecDepth 100000 in
set_option maxHeartbeats 3200000 in
theorem allR_any (p : Option Addr) (c : Nat) (L : List Rsp) (w : World) (hR : Rsps w w.heap.size p L) (hok : ∀ r ∈ L, RspOk r ∧ smallR r = true) (hl : L.length ≤ 60) (hS : Std w) (hA : StdA w) :
    Calls Tryd.prog 23 #[.slice p L.length c] w (RetB w (allF L)) := by
  have HR := Lib.hid hR
  have HP := Lib.hid (fun k (hk : k < L.length) P c' W (hW : Below w.heap.size w W) (hb : Bys w w.heap.size P L[k].body) (hc : L[k].body.length ≤ c') => print_any L[k] P c' W (hok _ (List.getElem_mem hk)).1 ((hb.below hW).more hW.size) hc (hS.below hW) (hA.below hW))
  have HT := Lib.hid (fun k => allF_len (L.take k) (fun r hr => hok r (List.mem_of_mem_take hr)))
  have HO := Lib.hid (fun k (hk : k < L.length) => oneF_small L[k] (hok _ (List.getElem_mem hk)).1 (hok _ (List.getElem_mem hk)).2)
  obtain ⟨n, hn⟩ : ∃ n, n = L.length := ⟨_, rfl⟩
  rw [← hn]
  have HN := Lib.hid hn
  have hnb : n ≤ 60 := by omega
  clear hR hok hl hS hA hn
  go_enter Tryd.func23, Tryd.ntmps23
  go_wp2_with fail
  go_loopw [3, 10] (fun v i wr => ∃ k : Nat, k ≤ n ∧ i = .int .i64 (k : Int) ∧ Buf wr w.heap.size 1 v (allF (L.take k)).length (Lib.byteCells (allF (L.take k))) ∧ Below w.heap.size w wr) (fun _ i _ => n - (intOf i).toNat)
  case atStart => exact ⟨0, Nat.zero_le _, rfl, Buf.nil _ _ _, Below.refl _ _⟩
  case round =>
    obtain ⟨k, hk, rfl, hb, hbw⟩ := hrel
    have HB := Lib.hid hb
    have HW := Lib.hid hbw
    clear hb hbw
    by_cases hlt : k < n
    · have hk1 : k < L.length := by have := HN.out; omega
      obtain ⟨b, o, P, c', rfl, hbl, hby, hc, k0, k1, k2, k3, k4, k5, k6, k7, k8, k9⟩ := HR.out k hk1
      rw [← HW.out.cell (p := ⟨b, o + k * 10, none⟩) hbl] at k0
      rw [← HW.out.cell (p := ⟨b, o + k * 10 + 1, none⟩) hbl] at k1
      rw [← HW.out.cell (p := ⟨b, o + k * 10 + 2, none⟩) hbl] at k2
      rw [← HW.out.cell (p := ⟨b, o + k * 10 + 3, none⟩) hbl] at k3
      rw [← HW.out.cell (p := ⟨b, o + k * 10 + 4, none⟩) hbl] at k4
      rw [← HW.out.cell (p := ⟨b, o + k * 10 + 5, none⟩) hbl] at k5
      rw [← HW.out.cell (p := ⟨b, o + k * 10 + 6, none⟩) hbl] at k6
      rw [← HW.out.cell (p := ⟨b, o + k * 10 + 7, none⟩) hbl] at k7
      rw [← HW.out.cell (p := ⟨b, o + k * 10 + 8, none⟩) hbl] at k8
      rw [← HW.out.cell (p := ⟨b, o + k * 10 + 9, none⟩) hbl] at k9
      have HPK := Lib.hid (fun W (hW : Below w.heap.size w W) => HP.out k hk1 P c' W hW hby hc)
      have HOK := Lib.hid (HO.out k hk1)
      have HNX := Lib.hid (allF_next hk1)
      unfold oneF at HOK HNX
      unfold rspA at HPK
      generalize L[k].kind = rk at *
      generalize L[k].n = rn at *
      generalize ofL L[k].tag = rtg at *
      generalize L[k].status = rst at *
      generalize ofL L[k].text = rtx at *
      generalize L[k].items = rit at *
      generalize L[k].flags = rfl' at *
      generalize L[k].uid = rui at *
      generalize L[k].size = rsz at *
      generalize L[k].body.length = rbl at *
      generalize (if vldB L[k] = true then formR L[k] else []) = ln at *
      generalize vldB L[k] = ok at *
      clear hby hc
      have hi0 : (0 : Int) ≤ k := by omega
      have hi1 : (k : Int) < n := by omega
      go_wp2_with fail
      refine (HPK.out _ (below_new HW.out _)).mono ?_
      rintro e w2 ⟨v2, rfl, hbuf2, hb2⟩
      have HW2 := Lib.hid (below_call (below_new HW.out _) hb2)
      have HB2 := Lib.hid ((HB.out.past (.cells #[.int .i64 rk, .int .u32 rn, .string rtg, .int .i64 rst, .string rtx, .int .i64 rit, .int .u8 rfl', .int .u32 rui, .int .u32 rsz, .slice P rbl c'] 26)).below hb2 (Nat.le_refl _))
      obtain ⟨pv, cv, rfl, hcv, hsrc⟩ := hbuf2.src (Lib.byteCells_one ln)
      obtain ⟨i0, hi, hz0, hz1, hz2⟩ := info_parts infoU8
      have HTK := Lib.hid (HT.out k)
      have hlk : (L.take k).length ≤ 60 := by rw [List.length_take]; omega
      obtain ⟨v3, w3, hrun3, hbuf3, hgr3, _⟩ := run_append_buf (P := Tryd.prog) w2 24 24 5 i0 (.int .u8 0) 1 1 Tryd.underlying24 hi hz0 hz1 hz2 rfl (by decide) w.heap.size _ _ _ HB2.out pv ln.length cv _ hsrc (by have := HTK.out; have := HOK.out; unfold maxLen; omega) (by have := HTK.out; have := HOK.out; omega) HW2.out.size
      have HRUN := Lib.hid hrun3
      have HB3 : Hid (Buf w3 w.heap.size 1 v3 (allF (L.take (k + 1))).length (Lib.byteCells (allF (L.take (k + 1))))) := Lib.hid (by
        rw [HNX.out, List.length_append, Lib.byteCells_append]
        exact hbuf3)
      have HW3 : Hid (Below w.heap.size w w3) := Lib.hid (HW2.out.grown hgr3 HW2.out.size (fun g hg => by
        rcases HB2.out.2 with ⟨e, _⟩ | ⟨g', off, cap, e, hg', _⟩
        · rw [e] at hg; cases hg
        · rw [e] at hg; simp only [Value.ownBlock, Option.some.injEq] at hg; omega))
      clear hbuf2 hb2 hcv hsrc hi hz0 hz1 hz2 hrun3 hbuf3 hgr3 HPK HNX HOK HTK
      generalize ln.length = m at *
      go_wp2_with (at_builtin; refine wpList_append_run _ rfl (.tmp 19) (.tmp 20) _ _ rfl _ _ rfl rfl _ _ HRUN.out ?_)
      exact ⟨⟨k + 1, by omega, by go_num, HB3.out, HW3.out⟩, by simp [intOf]; omega⟩
    · go_wp2_with fail
      go_ret
      have hk2 : L.take k = L := List.take_of_length_le (by have := HN.out; omega)
      refine ⟨_, rfl, ?_, HW.out⟩
      have h := HB.out
      rw [hk2] at h
      exact h
end Go.Proofs.YtgdhakkfddmkjaaDoor
namespace Go.Proofs.YtgdhakkfddmkjaaDoor
open Go.RowKit

theorem ownsRow_later {w w' : World} {base size n : Nat} {e : TypeId} {v : Value} {xs : List Value} (h : w.ownsRow base e size v n xs) (hb : Below w.heap.size w w') : w'.ownsRow base e size v n xs := by
  obtain ⟨h1, h2⟩ := h
  refine ⟨h1, ?_⟩
  rcases h2 with h2 | ⟨g, cap, cur, hv, hg, hh, r⟩
  · exact Or.inl h2
  · exact Or.inr ⟨g, cap, cur, hv, hg, by rw [hb.block g (lt_of_block hh)]; exact hh, r⟩
theorem strCells_ofL (l : List UInt8) : Lib.strCells (ofL l) = Lib.byteCells l := by
  unfold Lib.strCells Lib.byteCells
  rw [ofL_data]

set_option maxRecDepth 100000 in
set_option maxHeartbeats 3200000 in
theorem rallR_any (p : Option Addr) (c : Nat) (L : List Rsp) (w : World) (hR : Rsps w w.heap.size p L) (hok : ∀ r ∈ L, RspOk r ∧ smallR r = true) (hl : L.length ≤ 60) (hS : Std w) (hA : StdA w) :
    Calls Tryd.prog 24 #[.slice p L.length c] w (RetB w (allF L)) := by
  have HR := Lib.hid hR
  have HV := Lib.hid (fun k (hk : k < L.length) P c' W (hW : Below w.heap.size w W) (hb : Bys w w.heap.size P L[k].body) => rvalid_any L[k] P c' W (hok _ (List.getElem_mem hk)).1 ((hb.below hW).more hW.size))
  have HF := Lib.hid (fun k (hk : k < L.length) P c' W (hW : Below w.heap.size w W) (hb : Bys w w.heap.size P L[k].body) (hv : vldB L[k] = true) => rform_any L[k] P c' W (hok _ (List.getElem_mem hk)).1 ((hb.below hW).more hW.size) ((vldB_iff _).1 hv))
  have HT := Lib.hid (fun k => allF_len (L.take k) (fun r hr => hok r (List.mem_of_mem_take hr)))
  have HO := Lib.hid (fun k (hk : k < L.length) => oneF_small L[k] (hok _ (List.getElem_mem hk)).1 (hok _ (List.getElem_mem hk)).2)
  obtain ⟨n, hn⟩ : ∃ n, n = L.length := ⟨_, rfl⟩
  rw [← hn]
  have HN := Lib.hid hn
  have hnb : n ≤ 60 := by omega
  clear hR hok hl hS hA hn
  go_enter Tryd.func24, Tryd.ntmps24
  go_wp2_with fail
  go_loopw [3, 4] (fun v i wr => ∃ k : Nat, k ≤ n ∧ i = .int .i64 (k : Int) ∧ wr.ownsRow w.heap.size 5 1 v (allF (L.take k)).length (Lib.byteCells (allF (L.take k))) ∧ Below w.heap.size w wr) (fun _ i _ => n - (intOf i).toNat)
  case atStart => exact ⟨0, Nat.zero_le _, rfl, World.ownsRow_nil _ _ _ _, Below.refl _ _⟩
  case round =>
    obtain ⟨k, hk, rfl, hb, hbw⟩ := hrel
    have HB := Lib.hid hb
    have HW := Lib.hid hbw
    clear hb hbw
    by_cases hlt : k < n
    · have hk1 : k < L.length := by have := HN.out; omega
      obtain ⟨b, o, P, c', rfl, hbl, hby, hc, k0, k1, k2, k3, k4, k5, k6, k7, k8, k9⟩ := HR.out k hk1
      have q0 := k0
      rw [← HW.out.cell (p := ⟨b, o + k * 10, none⟩) hbl] at q0
      have q1 := k1
      rw [← HW.out.cell (p := ⟨b, o + k * 10 + 1, none⟩) hbl] at q1
      have q2 := k2
      rw [← HW.out.cell (p := ⟨b, o + k * 10 + 2, none⟩) hbl] at q2
      have q3 := k3
      rw [← HW.out.cell (p := ⟨b, o + k * 10 + 3, none⟩) hbl] at q3
      have q4 := k4
      rw [← HW.out.cell (p := ⟨b, o + k * 10 + 4, none⟩) hbl] at q4
      have q5 := k5
      rw [← HW.out.cell (p := ⟨b, o + k * 10 + 5, none⟩) hbl] at q5
      have q6 := k6
      rw [← HW.out.cell (p := ⟨b, o + k * 10 + 6, none⟩) hbl] at q6
      have q7 := k7
      rw [← HW.out.cell (p := ⟨b, o + k * 10 + 7, none⟩) hbl] at q7
      have q8 := k8
      rw [← HW.out.cell (p := ⟨b, o + k * 10 + 8, none⟩) hbl] at q8
      have q9 := k9
      rw [← HW.out.cell (p := ⟨b, o + k * 10 + 9, none⟩) hbl] at q9
      have HVK := Lib.hid (fun W (hW : Below w.heap.size w W) => HV.out k hk1 P c' W hW hby)
      have HFK := Lib.hid (fun W (hW : Below w.heap.size w W) (hv : vldB L[k] = true) => HF.out k hk1 P c' W hW hby hv)
      have HOK := Lib.hid (HO.out k hk1)
      have HNX := Lib.hid (allF_next hk1)
      unfold oneF at HOK HNX
      unfold rspA at HVK HFK
      generalize L[k].kind = rk at *
      generalize L[k].n = rn at *
      generalize ofL L[k].tag = rtg at *
      generalize L[k].status = rst at *
      generalize ofL L[k].text = rtx at *
      generalize L[k].items = rit at *
      generalize L[k].flags = rfl' at *
      generalize L[k].uid = rui at *
      generalize L[k].size = rsz at *
      generalize L[k].body.length = rbl at *
      generalize formR L[k] = ln at *
      generalize vldB L[k] = ok at *
      clear hby hc
      have hi0 : (0 : Int) ≤ k := by omega
      have hi1 : (k : Int) < n := by omega
      go_wp2_with fail
      refine (HVK.out _ HW.out).mono ?_
      rintro e w1 ⟨rfl, hb1⟩
      have HW1 := Lib.hid (below_call HW.out hb1)
      have HB1 := Lib.hid (ownsRow_later HB.out hb1)
      cases ok with
      | false =>
        go_wp2_with fail
        have hnx := HNX.out
        simp only [Bool.false_eq_true, if_false, List.append_nil] at hnx
        exact ⟨⟨k + 1, by omega, by go_num, by rw [hnx]; exact HB1.out, HW1.out⟩, by simp [intOf]; omega⟩
      | true =>
        clear q0 q1 q2 q3 q4 q5 q6 q7 q8 q9
        rw [← HW1.out.cell (p := ⟨b, o + k * 10, none⟩) hbl] at k0
        rw [← HW1.out.cell (p := ⟨b, o + k * 10 + 1, none⟩) hbl] at k1
        rw [← HW1.out.cell (p := ⟨b, o + k * 10 + 2, none⟩) hbl] at k2
        rw [← HW1.out.cell (p := ⟨b, o + k * 10 + 3, none⟩) hbl] at k3
        rw [← HW1.out.cell (p := ⟨b, o + k * 10 + 4, none⟩) hbl] at k4
        rw [← HW1.out.cell (p := ⟨b, o + k * 10 + 5, none⟩) hbl] at k5
        rw [← HW1.out.cell (p := ⟨b, o + k * 10 + 6, none⟩) hbl] at k6
        rw [← HW1.out.cell (p := ⟨b, o + k * 10 + 7, none⟩) hbl] at k7
        rw [← HW1.out.cell (p := ⟨b, o + k * 10 + 8, none⟩) hbl] at k8
        rw [← HW1.out.cell (p := ⟨b, o + k * 10 + 9, none⟩) hbl] at k9
        go_wp2_with fail
        refine (HFK.out _ HW1.out (by trivial)).mono ?_
        rintro e w2 ⟨rfl, hb2⟩
        have HW2 := Lib.hid (below_call HW1.out hb2)
        have HB2 := Lib.hid (ownsRow_later HB1.out hb2)
        have hnx := HNX.out
        have hok1 := HOK.out
        simp only [if_true] at hnx hok1
        obtain ⟨i0, hi, hz0, hz1, hz2⟩ := info_parts infoU8
        have HTK := Lib.hid (HT.out k)
        have hlk : (L.take k).length ≤ 60 := by rw [List.length_take]; omega
        have hsz : (ofL ln).size = ln.length := ofL_size _
        obtain ⟨v3, w3, hrun3, hbuf3, hgr3, _⟩ := Lib.run_append_own_string (P := Tryd.prog) w2 w.heap.size 24 9 24 5 i0 Tryd.underlying24 Tryd.underlying9 hi hz0 hz1 hz2 _ _ _ HB2.out (ofL ln) (by have := HTK.out; unfold maxLen; omega) (by have := HTK.out; omega) HW2.out.size
        have HRUN := Lib.hid hrun3
        have HB3 : Hid (w3.ownsRow w.heap.size 5 1 v3 (allF (L.take (k + 1))).length (Lib.byteCells (allF (L.take (k + 1))))) := Lib.hid (by
          rw [hnx, List.length_append, Lib.byteCells_append]
          rw [strCells_ofL, hsz] at hbuf3
          exact hbuf3)
        have HW3 : Hid (Below w.heap.size w w3) := Lib.hid (HW2.out.grown hgr3 HW2.out.size (fun g hg => by
          rcases HB2.out.2 with ⟨e, _⟩ | ⟨g', cap, cur, e, hg', _⟩
          · rw [e] at hg; cases hg
          · rw [e] at hg; simp only [Value.ownBlock, Option.some.injEq] at hg; omega))
        clear hb1 hb2 hi hz0 hz1 hz2 hrun3 hbuf3 hgr3 hnx hok1 hsz
        generalize ofL ln = ls at *
        go_wp2_with (at_builtin; refine wpList_append_run _ rfl (.tmp 16) (.tmp 21) _ _ rfl _ _ rfl rfl _ _ HRUN.out ?_)
        exact ⟨⟨k + 1, by omega, by go_num, HB3.out, HW3.out⟩, by simp [intOf]; omega⟩
    · go_wp2_with fail
      go_ret
      have hk2 : L.take k = L := List.take_of_length_le (by have := HN.out; omega)
      refine ⟨_, rfl, ?_, HW.out⟩
      have h := HB.out
      rw [hk2] at h
      exact Buf.of_own h
end Go.Proofs.YtgdhakkfddmkjaaDoor
namespace Go.Proofs.YtgdhakkfddmkjaaDoor
open Go.RowKit

theorem grow_run (w : World) (n : Nat) (h0 : 0 < n) (hn : n ≤ 1048576) :
    ∃ g cap w', (Builtin.append_ #[24, 3] 24 #[.slice none 0 0, .int .i64 n]).run Tryd.prog w = .ok (.slice (some ⟨g, 0, none⟩) n cap) w' ∧ n ≤ cap ∧ Buf w' w.heap.size 1 (.slice (some ⟨g, 0, none⟩) 0 cap) 0 [] ∧ Below w.heap.size w w' := by
  obtain ⟨i0, hi, hz0, hz1, hz2⟩ := info_parts infoU8
  have hrun := Lib.run_append_nil_zeros (P := Tryd.prog) w 24 3 24 5 i0 (.int .u8 0) .i64 .i64 Tryd.underlying24 Tryd.underlying3 hi hz0 n h0 (by rw [hz1]; decide) (by omega) (by rw [hz2]; omega)
  have hge := grownCap_ge w n 0 5
  refine ⟨_, _, _, hrun, hge, ?_, Below.alloc (Below.drew (Below.refl _ _)) (Nat.le_refl _) _⟩
  have hh := heap_alloc_new w.drew (.cells (Builtin.zeroCells (Value.int .u8 0).cells n ++ Builtin.zeroCells (Value.int .u8 0).cells (grownCap w n 0 5 - n)) 5)
  have hsz : (Builtin.zeroCells (Value.int .u8 0).cells n ++ Builtin.zeroCells (Value.int .u8 0).cells (grownCap w n 0 5 - n)).size = grownCap w n 0 5 := by
    simp [Builtin.zeroCells, Value.cells]; omega
  refine ⟨rfl, .inr ⟨_, 0, _, rfl, Nat.le_refl _, by rw [World.size_alloc]; show w.heap.size < w.heap.size + 1; omega, Nat.zero_le _, fun j u hj => by simp at hj, fun j hj => ?_⟩⟩
  have hh' : (w.drew.alloc (.cells (Builtin.zeroCells (Value.int .u8 0).cells n ++ Builtin.zeroCells (Value.int .u8 0).cells (grownCap w n 0 5 - n)) 5)).heap[w.heap.size]? = _ := hh
  refine ⟨?_, ?_⟩
  · simp only [World.cell?, hh', Nat.zero_add]
    rw [Array.getElem?_eq_getElem (by rw [hsz]; omega)]; rfl
  · simp only [World.frozen?, hh', Nat.zero_add]
    simp

set_option maxRecDepth 100000 in
theorem grow_any (n : Nat) (hn : n ≤ 1048576) (w : World) :
    Calls Tryd.prog 35 #[.slice none 0 0, .int .i64 n] w fun e w' => ∃ v, e = .returned v ∧ Buf w' w.heap.size 1 v 0 [] ∧ Below w.heap.size w w' := by
  by_cases h0 : 0 < n
  · obtain ⟨g, cap, w', hrun, hc, hbuf, hb⟩ := grow_run w n h0 hn
    have HR := Lib.hid hrun
    have HB := Lib.hid hbuf
    have hi0 : (0 : Int) < n := by omega
    have hi1 : (n : Int) ≤ 1048576 := by omega
    clear hrun hbuf
    go_enter Tryd.func35, Tryd.ntmps35
    go_wp2_with (at_builtin; refine wpList_append_run _ rfl (.tmp 20) (.tmp 21) _ _ rfl _ _ rfl rfl _ _ HR.out ?_)
    go_ret
    exact ⟨_, rfl, HB.out, hb⟩
  · obtain rfl : n = 0 := by omega
    go_enter Tryd.func35, Tryd.ntmps35
    go_wp2_with fail
    go_ret
    exact ⟨_, rfl, Buf.nil _ _ _, Below.refl _ _⟩

/-- The bytes of the first k parts. -/
def flat (L : List (List UInt8)) (k : Nat) : List UInt8 := (L.take k).flatten
theorem flat_next {L : List (List UInt8)} {k : Nat} (h : k < L.length) : flat L (k + 1) = flat L k ++ L[k] := by
  unfold flat; rw [List.take_succ_eq_append_getElem h, List.flatten_append]; simp
theorem flat_le (L : List (List UInt8)) (k : Nat) : (flat L k).length ≤ L.flatten.length := by
  conv => rhs; rw [← List.take_append_drop k L, List.flatten_append, List.length_append]
  unfold flat; omega
theorem flat_all (L : List (List UInt8)) (k : Nat) (h : L.length ≤ k) : flat L k = L.flatten := by unfold flat; rw [List.take_of_length_le h]

set_option maxRecDepth 100000 in
set_option maxHeartbeats 1600000 in
theorem concat_any (b off cap : Nat) (L : List (List UInt8)) (w : World) (hL : L.flatten.length ≤ 1048576) (hm : L.length ≤ 1048576) (hb0 : 0 < L.length)
    (hc : ∀ k (hk : k < L.length), ∃ p c, w.cell? ⟨b, off + k, none⟩ = some (.slice p L[k].length c) ∧ b < w.heap.size ∧ Bys w w.heap.size p L[k]) :
    Calls Tryd.prog 25 #[.slice (some ⟨b, off, none⟩) L.length cap] w (RetB w L.flatten) := by
  have HC := Lib.hid hc
  have HL := Lib.hid hL
  have HN : Hid (∀ k (hk : k < L.length), ∃ l, L[k] = l ∧ flat L (k + 1) = flat L k ++ l ∧ (flat L k).length + l.length ≤ 1048576) := Lib.hid fun k hk =>
    ⟨_, rfl, flat_next hk, by have := flat_le L (k + 1); rw [flat_next hk, List.length_append] at this; omega⟩
  have HZ : Hid (flat L L.length = L.flatten) := Lib.hid (flat_all L _ (Nat.le_refl _))
  have hF : ∀ k, Hid ((flat L k).length ≤ 1048576) := fun k => Lib.hid (by have := flat_le L k; omega)
  obtain ⟨m, hmm⟩ : ∃ m, m = L.length := ⟨_, rfl⟩
  rw [← hmm]
  have HM := Lib.hid hmm
  have hm1 : m ≤ 1048576 := by omega
  clear hc hL hm hmm hb0
  go_enter Tryd.func25, Tryd.ntmps25
  go_wp2_with fail
  go_loop [3, 11] (fun s i => ∃ k : Nat, k ≤ m ∧ i = .int .i64 (k : Int) ∧ s = .int .i64 ((flat L k).length : Int)) (fun _ i => m - (intOf i).toNat)
  case atStart => exact ⟨0, Nat.zero_le _, rfl, rfl⟩
  case round =>
    obtain ⟨k, hk, rfl, rfl⟩ := hrel
    by_cases hlt : k < m
    · obtain ⟨p, c, hcell, hbw, _⟩ := HC.out k (by have := HM.out; omega)
      obtain ⟨l, hl, hfl, hsz⟩ := HN.out k (by have := HM.out; omega)
      rw [hl] at hcell
      have e1 : ((flat L k).length : Int) + (l.length : Int) = ((flat L (k + 1)).length : Int) := by rw [hfl, List.length_append]; omega
      have HE := Lib.hid e1
      have hi0 : (0 : Int) ≤ k := by omega
      have hi1 : (k : Int) < m := by omega
      clear hl hfl e1
      generalize (flat L k).length = x at *
      generalize l.length = z at *
      have hx : (x : Int) + z ≤ 1048576 := by omega
      have hx0 : (0 : Int) ≤ (x : Int) + z := by omega
      go_wp2_with fail
      go_round
      case rel => exact ⟨k + 1, by omega, by go_num, by rw [← HE.out]⟩
      case measure => simp [intOf]; omega
    · have hkm : k = m := by omega
      subst hkm
      have e2 : flat L k = L.flatten := by rw [HM.out]; exact HZ.out
      rw [e2]
      have HG := Lib.hid (fun w => grow_any L.flatten.length HL.out w)
      generalize hnn : L.flatten.length = n at HG
      go_wp2_with fail
      refine (HG.out w).mono ?_
      rintro e w1 ⟨v, rfl, hbuf, hb1⟩
      go_wp2_with fail
      go_loopw [6, 27] (fun v i wr => ∃ j : Nat, j ≤ k ∧ i = .int .i64 (j : Int) ∧ Buf wr w.heap.size 1 v (flat L j).length (Lib.byteCells (flat L j)) ∧ Below w.heap.size w wr) (fun _ i _ => k - (intOf i).toNat)
      case atStart => exact ⟨0, Nat.zero_le _, rfl, hbuf, hb1⟩
      case round =>
        obtain ⟨j, hj, rfl, hbuf, hb2⟩ := hrel
        by_cases hlt : j < k
        · obtain ⟨p, c, hcell, hbw, hbys⟩ := HC.out j (by have := HM.out; omega)
          obtain ⟨l, hl, hfl, hsz⟩ := HN.out j (by have := HM.out; omega)
          rw [hl] at hcell hbys
          obtain ⟨i0, hi, hz0, hz1, hz2⟩ := info_parts infoU8
          obtain ⟨v2, w2, hrun2, hbuf2, hgr, _⟩ := run_append_buf (P := Tryd.prog) wr 24 24 5 i0 (.int .u8 0) 1 1 Tryd.underlying24 hi hz0 hz1 hz2 rfl (by decide) w.heap.size _ (flat L j).length _ hbuf p l.length c _ (src_bys (hbys.below hb2)) (by unfold maxLen; omega) (by omega) hb2.size
          rw [← byteCells_app, ← hfl] at hbuf2
          rw [← List.length_append, ← hfl] at hbuf2
          have hb3 : Below w.heap.size w w2 := hb2.grown hgr hb2.size (fun q hq => by
            rcases hbuf.2 with ⟨rfl, _⟩ | ⟨g, off, c, rfl, hg, _⟩
            · simp [Value.ownBlock] at hq
            · simp only [Value.ownBlock, Option.some.injEq] at hq; omega)
          have hcw : wr.cell? ⟨b, off + j, none⟩ = some (.slice p l.length c) := by rw [hb2.cell (by exact hbw)]; exact hcell
          have HR2 := Lib.hid hrun2
          have HB2 := Lib.hid hbuf2
          have HB3 := Lib.hid hb3
          have hi0 : (0 : Int) ≤ j := by omega
          have hi1 : (j : Int) < k := by omega
          clear hrun2 hbuf2 hb3 hgr hbuf hl hfl hsz hcell hbys hi hb2 hbw
          generalize l.length = z at *
          go_wp2_with (at_builtin; refine wpList_append_run _ rfl (.tmp 31) (.tmp 32) _ _ rfl _ _ rfl rfl _ _ HR2.out ?_)
          go_roundw
          case rel => exact ⟨j + 1, by omega, by go_num, HB2.out, HB3.out⟩
          case measure => simp [intOf]; omega
        · have hjk : j = k := by omega
          subst hjk
          rw [e2] at hbuf
          have HB := Lib.hid hbuf
          have HB2 := Lib.hid hb2
          clear hbuf hb2
          go_wp2_with fail
          go_ret
          exact ⟨_, rfl, HB.out, HB2.out⟩

theorem concat2 (w : World) (p q : Option Addr) (c d : Nat) (l m : List UInt8) (hp : Bys w w.heap.size p l) (hq : Bys w w.heap.size q m) (hl : l.length + m.length ≤ 1048576) :
    Calls Tryd.prog 25 #[.slice (some ⟨w.heap.size, 0, none⟩) 2 2] (w.alloc (.cells #[.slice p l.length c, .slice q m.length d] 24)) (RetB (w.alloc (.cells #[.slice p l.length c, .slice q m.length d] 24)) (l ++ m)) := by
  have hh := heap_alloc_new w (.cells #[.slice p l.length c, .slice q m.length d] 24)
  have hs : (w.alloc (.cells #[.slice p l.length c, .slice q m.length d] 24)).heap.size = w.heap.size + 1 := World.size_alloc _ _
  have hb : Below w.heap.size w (w.alloc (.cells #[.slice p l.length c, .slice q m.length d] 24)) := (Below.refl _ _).alloc (Nat.le_refl _) _
  have h := concat_any w.heap.size 0 2 [l, m] (w.alloc (.cells #[.slice p l.length c, .slice q m.length d] 24)) (by simp; omega) (by simp) (by simp) (fun k hk => by
    match k, hk with
    | 0, _ => exact ⟨p, c, by simp only [World.cell?, hh]; rfl, by omega, (hp.below hb).more (by omega)⟩
    | 1, _ => exact ⟨q, d, by simp only [World.cell?, hh]; rfl, by omega, (hq.below hb).more (by omega)⟩)
  rw [show [l, m].flatten = l ++ m by simp] at h
  exact h
theorem concat3 (w : World) (p q r : Option Addr) (c d f : Nat) (l m k : List UInt8) (hp : Bys w w.heap.size p l) (hq : Bys w w.heap.size q m) (hr : Bys w w.heap.size r k) (hl : l.length + m.length + k.length ≤ 1048576) :
    Calls Tryd.prog 25 #[.slice (some ⟨w.heap.size, 0, none⟩) 3 3] (w.alloc (.cells #[.slice p l.length c, .slice q m.length d, .slice r k.length f] 24)) (RetB (w.alloc (.cells #[.slice p l.length c, .slice q m.length d, .slice r k.length f] 24)) (l ++ (m ++ k))) := by
  have hh := heap_alloc_new w (.cells #[.slice p l.length c, .slice q m.length d, .slice r k.length f] 24)
  have hs : (w.alloc (.cells #[.slice p l.length c, .slice q m.length d, .slice r k.length f] 24)).heap.size = w.heap.size + 1 := World.size_alloc _ _
  have hb : Below w.heap.size w (w.alloc (.cells #[.slice p l.length c, .slice q m.length d, .slice r k.length f] 24)) := (Below.refl _ _).alloc (Nat.le_refl _) _
  have h := concat_any w.heap.size 0 3 [l, m, k] (w.alloc (.cells #[.slice p l.length c, .slice q m.length d, .slice r k.length f] 24)) (by simp; omega) (by simp) (by simp) (fun j hj => by
    match j, hj with
    | 0, _ => exact ⟨p, c, by simp only [World.cell?, hh]; rfl, by omega, (hp.below hb).more (by omega)⟩
    | 1, _ => exact ⟨q, d, by simp only [World.cell?, hh]; rfl, by omega, (hq.below hb).more (by omega)⟩
    | 2, _ => exact ⟨r, f, by simp only [World.cell?, hh]; rfl, by omega, (hr.below hb).more (by omega)⟩)
  rw [show [l, m, k].flatten = l ++ (m ++ k) by simp] at h
  exact h
end Go.Proofs.YtgdhakkfddmkjaaDoor
