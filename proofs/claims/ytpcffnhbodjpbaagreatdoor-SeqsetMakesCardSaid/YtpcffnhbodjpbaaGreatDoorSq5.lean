/- SeqsetMakes: the law's own walk. -/
import Derived.Test.YtpcffnhbodjpbaaGreatDoorSq4
import Derived.Test.YtpcffnhbodjpbaaGreatDoorGrp
import Derived.Test.YtpcffnhbodjpbaaGreatDoorU16
import Derived.Test.YtpcffnhbodjpbaaGreatDoorRgE
import Derived.Test.YtpcffnhbodjpbaaGreatDoorConc
set_option linter.unusedVariables false
set_option linter.unusedSimpArgs false
namespace Go.Proofs.YtpcffnhbodjpbaaGreatDoor
open Go Go.RowKit Go.Shelf Go.Lib Go.Sort

/-- The numbers that the law takes. -/
def modL (l : List Nat) : List Nat := l.map fun n => n % 1000
def intL (l : List Nat) : List Int := l.map fun n : Nat => (n : Int)
theorem srt_top {l : List Nat} : ∀ k ∈ srtU (intL l), 1 ≤ k ∧ k ≤ ((topL l : Nat) : Int) := fun k hk => by
  obtain ⟨h1, h2⟩ := srtU_mem.1 hk
  unfold intL at h1
  obtain ⟨n, hn, rfl⟩ := List.mem_map.1 h1
  have := topL_le l n hn
  omega
theorem topL_lt {l : List Nat} {N : Nat} (h : ∀ x ∈ l, x < N) (h0 : 0 < N) : topL l < N := by
  have hg : ∀ (l : List Nat) (a : Nat), a < N → (∀ x ∈ l, x < N) → l.foldl max a < N := by
    intro l
    induction l with
    | nil => intro a ha _; exact ha
    | cons y l ih => intro a ha h; exact ih _ (by have := h y (by simp); omega) (fun x hx => h x (List.mem_cons_of_mem _ hx))
  exact hg l 0 h0 h

set_option maxRecDepth 100000 in
set_option maxHeartbeats 12800000 in
theorem seqsetMakes_walk (l : List Nat) (v : Value) (w : World) (hU : U16 w w.heap.size v l) (hb : ∀ x ∈ l, x < 65536) (hS : Std w) (hM : StdM w) :
    Calls Tryz.prog 5 #[v] w fun e w' => e = .returned (.bool true) ∧ Below w.heap.size w w' := by
  obtain ⟨A, cap, rfl, hc⟩ := hU
  obtain ⟨n, hn⟩ : ∃ n, l.length = n := ⟨_, rfl⟩
  rw [hn] at hc ⊢
  have HA := Lib.hid (fun W (hb : Below w.heap.size w W) => alive_any W (hS.below hb) (hM.below hb))
  by_cases h100 : 100 < n
  · have hI : (100 : Int) < n := by omega
    have hd : decide ((100 : Int) < (n : Int)) = true := decide_eq_true hI
    clear hc hb hS hM hn
    go_enter Tryz.func5, Tryz.ntmps5
    go_wp2_with fail
    refine (HA.out _ (Below.refl _ _)).mono ?_
    rintro e w2 ⟨rfl, hb2⟩
    have H2 := Lib.hid hb2
    clear hb2
    go_wp2_with fail
    go_ret
    exact ⟨rfl, H2.out⟩
  have hI : ¬ ((100 : Int) < n) := by omega
  have hd : decide ((100 : Int) < (n : Int)) = false := decide_eq_false hI
  have hnI : (n : Int) ≤ 100 := by omega
  obtain ⟨xs, hxs⟩ : ∃ xs, modL l = xs := ⟨_, rfl⟩
  have hxl : xs.length = n := by rw [← hxs]; unfold modL; rw [List.length_map, hn]
  have hx1 : ∀ x ∈ xs, x < 1000 := fun x hx => by
    rw [← hxs] at hx
    unfold modL at hx
    obtain ⟨y, _, rfl⟩ := List.mem_map.1 hx
    exact Nat.mod_lt _ (by omega)
  have HN := Lib.hid (And.intro hn (And.intro hc (And.intro hb (And.intro hxl (And.intro hx1 hxs)))))
  have HSM := Lib.hid (And.intro hS hM)
  clear hn hc hb hxl hx1 hxs hS hM
  go_enter Tryz.func5, Tryz.ntmps5
  go_wp2_with fail
  go_loopw [3, 4, 16] (fun s3 s4 i wr => ∃ (k : Nat) (sv : Value), k ≤ n ∧ sv = s3 ∧ s4 = .int .u32 (topL (xs.take k) : Nat) ∧ i = .int .i64 k ∧ Buf wr w.heap.size 1 sv k ((intL (xs.take k)).map (Value.int .u32)) ∧ Below w.heap.size w wr) (fun _ _ i _ => n - (intOf i).toNat)
  case atStart => exact ⟨0, _, Nat.zero_le _, rfl, rfl, rfl, Buf.nil _ _ _, Below.refl _ _⟩
  case round =>
    obtain ⟨k, sv, hk, rfl, rfl, rfl, hbuf, hbel⟩ := hrel
    have hkI : (k : Int) ≤ n := by omega
    by_cases hlt : k < n
    · have hltI : (k : Int) < n := by omega
      have hkl : k < l.length := by have := HN.out.1; omega
      have hkx : k < xs.length := by have := HN.out.2.2.2.1; omega
      obtain ⟨z, hz⟩ : ∃ z, l[k] = z := ⟨_, rfl⟩
      have hzk : l[k]? = some z := by rw [List.getElem?_eq_getElem hkl, hz]
      have hzb := HN.out.2.2.1 z (List.mem_of_getElem? hzk)
      obtain ⟨b, o, rfl, hbl, hcl⟩ := HN.out.2.1 (by have := HN.out.1; omega)
      have c0 : wr.cell? ⟨b, o + k, none⟩ = some (.int .u16 (z : Nat)) := (hbel.cell (p := ⟨b, o + k, none⟩) hbl).trans (hcl k z hzk)
      have hyx : xs[k] = z % 1000 := by
        have h := HN.out.2.2.2.2.2
        have : xs[k]? = some (z % 1000) := by rw [← h]; unfold modL; rw [List.getElem?_map, hzk]; rfl
        rw [List.getElem?_eq_getElem hkx] at this
        injection this
      have hmod : ((z : Nat) : Int).tmod 1000 = ((z % 1000 : Nat) : Int) := by rw [Int.ofNat_tmod]; rfl
      obtain ⟨y, hy⟩ : ∃ y, z % 1000 = y := ⟨_, rfl⟩
      rw [hy] at hmod hyx
      have hw : IntKind.u32.wrap (z : Int) = z := by show (z : Int) % 4294967296 = z; omega
      obtain ⟨t, ht⟩ : ∃ t, topL (xs.take k) = t := ⟨_, rfl⟩
      have hnx : xs.take (k + 1) = xs.take k ++ [y] := by rw [List.take_succ_eq_append_getElem hkx, hyx]
      have hmx : max (t : Int) (y : Int) = ((max t y : Nat) : Int) := by omega
      obtain ⟨mx, hmxe⟩ : ∃ mx, max t y = mx := ⟨_, rfl⟩
      rw [hmxe] at hmx
      have HT : Hid (topL (xs.take (k + 1)) = mx) := Lib.hid (by rw [hnx, topL_snoc, ht, hmxe])
      obtain ⟨g, o2, c2, w4, hrun, hb4, hbel4⟩ := push_one Tryz.underlying37 infoU32 rfl (by decide) hbuf (.int .u32 (y : Nat)) rfl hbel.size (by omega)
      have HR := Lib.hid hrun
      have HB := Lib.hid (show Buf w4 w.heap.size 1 (.slice (some ⟨g, o2, none⟩) (k + 1) c2) (k + 1) ((intL (xs.take (k + 1))).map (Value.int .u32)) ∧ Below w.heap.size w w4 from ⟨by rw [hnx]; unfold intL; rw [List.map_append, List.map_append]; exact hb4, hbel.trans hbel4⟩)
      rw [ht]
      clear hrun hb4 hbel4 hbuf hbel hz hzk hzb hcl hyx hy hmxe hnx ht
      go_wp2_with (at_builtin; refine wpList_append_run _ rfl (.tmp 20) (.tmp 24) _ _ rfl _ _ rfl rfl _ _ HR.out ?_)
      go_roundw
      case rel => exact ⟨k + 1, _, by omega, rfl, by rw [HT.out], by go_num, HB.out.1, HB.out.2⟩
      case measure => simp [intOf]; omega
    · obtain rfl : k = n := by omega
      rw [List.take_of_length_le (by have := HN.out.2.2.2.1; omega)] at hbuf ⊢
      have hXl : (intL xs).length = k := by unfold intL; rw [List.length_map]; exact HN.out.2.2.2.1
      have hU1 : U32 wr wr.heap.size sv (intL xs) := U32.of_buf (by rw [hXl]; exact hbuf)
      have hXr : ∀ x ∈ intL xs, 0 ≤ x ∧ x < 4294967296 := fun x hx => by
        unfold intL at hx
        obtain ⟨y, hy, rfl⟩ := List.mem_map.1 hx
        have := HN.out.2.2.2.2.1 y hy
        omega
      have hall := srt_top (l := xs)
      have htl : topL xs < 1000 := topL_lt HN.out.2.2.2.2.1 (by omega)
      have hsl : (srtU (intL xs)).length ≤ 100 := Nat.le_trans (srtU_len _) (by omega)
      have hac := srtU_asc (intL xs)
      obtain ⟨t, ht⟩ : ∃ t, topL xs = t := ⟨_, rfl⟩
      have HO := Lib.hid (of_any (intL xs) sv wr hU1 (by omega) hXr)
      have HRo := Lib.hid (fun W (hb : Below wr.heap.size wr W) => rof_any (intL xs) sv W ((hU1.below hb (Nat.le_refl _)).mono hb.size) (by omega) hXr)
      have HSo := Lib.hid (fun W (hb : Below wr.heap.size wr W) => ref_sorted (intL xs) sv W ((hU1.below hb (Nat.le_refl _)).mono hb.size) (by omega))
      obtain ⟨P, hP⟩ : ∃ P, srtU (intL xs) = P := ⟨_, rfl⟩
      rw [hP] at HO HRo HSo hall hsl hac
      rw [ht] at hall htl ⊢
      have hG1 := grp_sep hac
      have hG2 := (grp_cov P).1
      have hG3 : ∀ p ∈ grp P, (1 ≤ p.1 ∧ p.1 < 1000) ∧ (1 ≤ p.2 ∧ p.2 < 1000) := fun p hp => by
        have h1 := hall _ (grp_in p hp).1
        have h2 := hall _ (grp_in p hp).2
        omega
      have hnums := nums_of_grp hac hall (by omega)
      have hgl : (grp P).length ≤ 100 := by
        have h1 := ofZ_len (cmpU (intL xs))
        rw [ofZ_cmp, hP] at h1
        have h2 := compact_len ((intL xs).mergeSort fun x y => decide (x ≤ y))
        rw [List.length_mergeSort] at h2
        have h3 : (cmpU (intL xs)).length ≤ (intL xs).length := h2
        omega
      have HG := Lib.hid (And.intro hG1 (And.intro hG2 (And.intro hG3 (And.intro hnums (And.intro hsl (And.intro hgl htl))))))
      have HB := Lib.hid hbel
      clear hbuf hbel hU1 hXr hall hac hP ht hG1 hG2 hG3 hnums hsl hXl hgl htl
      go_wp2_with fail
      refine HO.out.mono ?_
      rintro e w5 ⟨v5, rfl, hB5, hb5⟩
      have H5 := Lib.hid (And.intro (RdP.of_buf hB5) (And.intro (RgL.of_buf (l := (grp P).map rbP) (by
        have h := rbP_flat (G := grp P) (fun p hp => by have := HG.out.2.2.1 p hp; omega)
        rw [List.length_map, h]; exact hB5)) (And.intro hb5 (HB.out.trans (hb5.mono HB.out.size)))))
      obtain ⟨m, hm⟩ : ∃ m, (grp P).length = m := ⟨_, rfl⟩
      obtain ⟨A5, c5, rfl, hc5⟩ := id H5.out.1
      rw [hm] at hc5 ⊢
      have HC := Lib.hid (And.intro hm hc5)
      have hmI : (m : Int) ≤ 100 := by have := HG.out.2.2.2.2.2.1; omega
      have hmb : m ≤ 100 := by omega
      clear hB5 hb5 hc5 hm
      go_wp2_with fail
      go_loopw [36] (fun i wq => ∃ q : Nat, q ≤ m ∧ i = .int .i64 q ∧ Below w5.heap.size w5 wq) (fun i _ => m - (intOf i).toNat)
      case atStart => exact ⟨0, Nat.zero_le _, rfl, Below.refl _ _⟩
      case round =>
        obtain ⟨q, hq, rfl, hbq⟩ := hrel
        have hqI : (q : Int) ≤ m := by omega
        by_cases hqm : q < m
        · have hqmI : (q : Int) < m := by omega
          have hql : q < (grp P).length := by have := HC.out.1; omega
          obtain ⟨⟨lo, hi⟩, hre⟩ : ∃ p, (grp P)[q] = p := ⟨_, rfl⟩
          have hrq : (grp P)[q]? = some (lo, hi) := by rw [List.getElem?_eq_getElem hql, hre]
          have hmem := List.mem_of_getElem? hrq
          have hle := HG.out.2.1 _ hmem
          have hbd := HG.out.2.2.1 _ hmem
          simp only at hle hbd
          obtain ⟨b, o, rfl, hbl, hcl⟩ := HC.out.2 (by omega)
          have c0 : wr.cell? ⟨b, o + q * 2, none⟩ = some (.int .u32 lo) := (hbq.cell (p := ⟨b, o + q * 2, none⟩) hbl).trans (hcl q _ hrq).1
          have c1 : wr.cell? ⟨b, o + q * 2 + 1, none⟩ = some (.int .u32 hi) := (hbq.cell (p := ⟨b, o + q * 2 + 1, none⟩) hbl).trans (hcl q _ hrq).2
          have hgt : ¬ (hi < lo) := by omega
          have hgtd : decide (hi < lo) = false := decide_eq_false hgt
          obtain ⟨rb, hrb⟩ : ∃ rb, wr.heap.size = rb := ⟨_, rfl⟩
          have hbw : Below w5.heap.size w5 (wr.alloc (.cells #[.int .u32 lo, .int .u32 hi] 32)) := hbq.alloc hbq.size _
          have hblk : Blk (wr.alloc (.cells #[.int .u32 lo, .int .u32 hi] 32)) rb 32 #[.int .u32 lo, .int .u32 hi] := by rw [← hrb]; exact Blk.made _ _ _
          by_cases hq0 : q = 0
          · have hq0I : ¬ ((0 : Int) < q) := by omega
            have hq0d : decide ((0 : Int) < (q : Int)) = false := decide_eq_false hq0I
            have hq0e : decide (0 < q) = false := decide_eq_false (by omega)
            have hq0f : ¬ (0 < q) := by omega
            have HK := Lib.hid (And.intro hblk hbw)
            clear hblk hbw hbq hre hrq hmem hle hbd hcl hql hq0
            go_upto_region 15 with fail
            try clear hrb
            refine region_anyC (fun W => Blk W rb 32 #[.int .u32 lo, .int .u32 hi]) (by kernel_rfl) ?_
            refine anyC_take (i := 0) (v := ?_) rfl (by kernel_rfl) (by kernel_rfl) (by kernel_rfl) (fun _ _ _ h => h) (HK.out.1) (Or.inl ⟨by rfl, ?_⟩) ?_
            rotate_left
            · intro W hW
              go_simp
              try with_reducible rfl
            try simp only [List.getElem_toArray, List.getElem_cons_zero, List.getElem_cons_succ, Act.put, List.setIfInBounds_toArray, List.set_cons_zero, List.set_cons_succ]
            refine anyC_take (i := 2) (v := ?_) rfl (by kernel_rfl) (by kernel_rfl) (by kernel_rfl) (fun _ _ _ h => h) (HK.out.1) (Or.inl ⟨by rfl, ?_⟩) ?_
            rotate_left
            · intro W hW
              go_simp
              try with_reducible rfl
            try simp only [List.getElem_toArray, List.getElem_cons_zero, List.getElem_cons_succ, Act.put, List.setIfInBounds_toArray, List.set_cons_zero, List.set_cons_succ]
            refine anyC_take (i := 1) (v := ?_) rfl (by kernel_rfl) (by kernel_rfl) (by kernel_rfl) (fun _ _ _ h => h) (HK.out.1) (Or.inl ⟨by rfl, ?_⟩) ?_
            rotate_left
            · intro W hW
              have x0 : W.cell? ⟨rb, 0, none⟩ = some (.int .u32 lo) := hW.cell 0
              have x1 : W.cell? ⟨rb, 1, none⟩ = some (.int .u32 hi) := hW.cell 1
              go_simp
              try with_reducible rfl
            try simp only [List.getElem_toArray, List.getElem_cons_zero, List.getElem_cons_succ, Act.put, List.setIfInBounds_toArray, List.set_cons_zero, List.set_cons_succ]
            refine anyC_take (i := 3) (v := ?_) rfl (by kernel_rfl) (by kernel_rfl) (by kernel_rfl) (fun _ _ _ h => h) (HK.out.1) (Or.inl ⟨by rfl, ?_⟩) ?_
            rotate_left
            · intro W hW
              have x0 : W.cell? ⟨rb, 0, none⟩ = some (.int .u32 lo) := hW.cell 0
              have x1 : W.cell? ⟨rb, 1, none⟩ = some (.int .u32 hi) := hW.cell 1
              go_simp
              try with_reducible rfl
            try simp only [List.getElem_toArray, List.getElem_cons_zero, List.getElem_cons_succ, Act.put, List.setIfInBounds_toArray, List.set_cons_zero, List.set_cons_succ]
            refine anyC_take (i := 4) (v := ?_) rfl (by kernel_rfl) (by kernel_rfl) (by kernel_rfl) (fun _ _ _ h => h) (HK.out.1) (Or.inl ⟨by rfl, ?_⟩) ?_
            rotate_left
            · intro W hW
              go_simp
              try with_reducible rfl
            try simp only [List.getElem_toArray, List.getElem_cons_zero, List.getElem_cons_succ, Act.put, List.setIfInBounds_toArray, List.set_cons_zero, List.set_cons_succ]
            refine anyC_take (i := 5) (v := ?_) rfl (by kernel_rfl) (by kernel_rfl) (by kernel_rfl) (fun _ _ _ h => h) (HK.out.1) (Or.inl ⟨by rfl, ?_⟩) ?_
            rotate_left
            · intro W hW
              go_simp
              try with_reducible rfl
            try simp only [List.getElem_toArray, List.getElem_cons_zero, List.getElem_cons_succ, Act.put, List.setIfInBounds_toArray, List.set_cons_zero, List.set_cons_succ]
            refine anyC_take (i := 6) (v := ?_) rfl (by kernel_rfl) (by kernel_rfl) (by kernel_rfl) (fun _ _ _ h => h) (HK.out.1) (Or.inl ⟨by rfl, ?_⟩) ?_
            rotate_left
            · intro W hW
              go_simp
              try with_reducible rfl
            try simp only [List.getElem_toArray, List.getElem_cons_zero, List.getElem_cons_succ, Act.put, List.setIfInBounds_toArray, List.set_cons_zero, List.set_cons_succ]
            refine anyC_take (i := 7) (v := ?_) rfl (by kernel_rfl) (by kernel_rfl) (by kernel_rfl) (fun _ _ _ h => h) (HK.out.1) (Or.inl ⟨by rfl, ?_⟩) ?_
            rotate_left
            · intro W hW
              go_simp
              try with_reducible rfl
            try simp only [List.getElem_toArray, List.getElem_cons_zero, List.getElem_cons_succ, Act.put, List.setIfInBounds_toArray, List.set_cons_zero, List.set_cons_succ]
            refine anyC_take (i := 8) (v := ?_) rfl (by kernel_rfl) (by kernel_rfl) (by kernel_rfl) (fun _ _ _ h => h) (HK.out.1) (Or.inl ⟨by rfl, ?_⟩) ?_
            rotate_left
            · intro W hW
              go_simp
              try with_reducible rfl
            try simp only [List.getElem_toArray, List.getElem_cons_zero, List.getElem_cons_succ, Act.put, List.setIfInBounds_toArray, List.set_cons_zero, List.set_cons_succ]
            refine anyC_take (i := 9) (v := undef) rfl (by kernel_rfl) (by kernel_rfl) (by kernel_rfl) (fun _ _ _ h => h) (HK.out.1) (Or.inr ⟨by rfl, rfl⟩) ?_
            try simp only [List.getElem_toArray, List.getElem_cons_zero, List.getElem_cons_succ, Act.put, List.setIfInBounds_toArray, List.set_cons_zero, List.set_cons_succ]
            refine anyC_take (i := 10) (v := undef) rfl (by kernel_rfl) (by kernel_rfl) (by kernel_rfl) (fun _ _ _ h => h) (HK.out.1) (Or.inr ⟨by rfl, rfl⟩) ?_
            try simp only [List.getElem_toArray, List.getElem_cons_zero, List.getElem_cons_succ, Act.put, List.setIfInBounds_toArray, List.set_cons_zero, List.set_cons_succ]
            refine anyC_take (i := 11) (v := undef) rfl (by kernel_rfl) (by kernel_rfl) (by kernel_rfl) (fun _ _ _ h => h) (HK.out.1) (Or.inr ⟨by rfl, rfl⟩) ?_
            try simp only [List.getElem_toArray, List.getElem_cons_zero, List.getElem_cons_succ, Act.put, List.setIfInBounds_toArray, List.set_cons_zero, List.set_cons_succ]
            refine anyC_take (i := 12) (v := undef) rfl (by kernel_rfl) (by kernel_rfl) (by kernel_rfl) (fun _ _ _ h => h) (HK.out.1) (Or.inr ⟨by rfl, rfl⟩) ?_
            try simp only [List.getElem_toArray, List.getElem_cons_zero, List.getElem_cons_succ, Act.put, List.setIfInBounds_toArray, List.set_cons_zero, List.set_cons_succ]
            refine anyC_take (i := 13) (v := undef) rfl (by kernel_rfl) (by kernel_rfl) (by kernel_rfl) (fun _ _ _ h => h) (HK.out.1) (Or.inr ⟨by rfl, rfl⟩) ?_
            try simp only [List.getElem_toArray, List.getElem_cons_zero, List.getElem_cons_succ, Act.put, List.setIfInBounds_toArray, List.set_cons_zero, List.set_cons_succ]
            refine anyC_take (i := 14) (v := undef) rfl (by kernel_rfl) (by kernel_rfl) (by kernel_rfl) (fun _ _ _ h => h) (HK.out.1) (Or.inr ⟨by rfl, rfl⟩) ?_
            try simp only [List.getElem_toArray, List.getElem_cons_zero, List.getElem_cons_succ, Act.put, List.setIfInBounds_toArray, List.set_cons_zero, List.set_cons_succ]
            refine anyC_take (i := 15) (v := undef) rfl (by kernel_rfl) (by kernel_rfl) (by kernel_rfl) (fun _ _ _ h => h) (HK.out.1) (Or.inr ⟨by rfl, rfl⟩) ?_
            try simp only [List.getElem_toArray, List.getElem_cons_zero, List.getElem_cons_succ, Act.put, List.setIfInBounds_toArray, List.set_cons_zero, List.set_cons_succ]
            refine anyC_take (i := 16) (v := undef) rfl (by kernel_rfl) (by kernel_rfl) (by kernel_rfl) (fun _ _ _ h => h) (HK.out.1) (Or.inr ⟨by rfl, rfl⟩) ?_
            try simp only [List.getElem_toArray, List.getElem_cons_zero, List.getElem_cons_succ, Act.put, List.setIfInBounds_toArray, List.set_cons_zero, List.set_cons_succ]
            refine anyC_take (i := 17) (v := undef) rfl (by kernel_rfl) (by kernel_rfl) (by kernel_rfl) (fun _ _ _ h => h) (HK.out.1) (Or.inr ⟨by rfl, rfl⟩) ?_
            try simp only [List.getElem_toArray, List.getElem_cons_zero, List.getElem_cons_succ, Act.put, List.setIfInBounds_toArray, List.set_cons_zero, List.set_cons_succ]
            refine anyC_take (i := 18) (v := undef) rfl (by kernel_rfl) (by kernel_rfl) (by kernel_rfl) (fun _ _ _ h => h) (HK.out.1) (Or.inr ⟨by rfl, rfl⟩) ?_
            try simp only [List.getElem_toArray, List.getElem_cons_zero, List.getElem_cons_succ, Act.put, List.setIfInBounds_toArray, List.set_cons_zero, List.set_cons_succ]
            refine anyC_take (i := 19) (v := ?_) rfl (by kernel_rfl) (by kernel_rfl) (by kernel_rfl) (fun _ _ _ h => h) (HK.out.1) (Or.inl ⟨by rfl, ?_⟩) ?_
            rotate_left
            · intro W hW
              go_simp
              try with_reducible rfl
            try simp only [List.getElem_toArray, List.getElem_cons_zero, List.getElem_cons_succ, Act.put, List.setIfInBounds_toArray, List.set_cons_zero, List.set_cons_succ]
            refine anyC_take (i := 20) (v := ?_) rfl (by kernel_rfl) (by kernel_rfl) (by kernel_rfl) (fun _ _ _ h => h) (HK.out.1) (Or.inl ⟨by rfl, ?_⟩) ?_
            rotate_left
            · intro W hW
              go_simp
              try with_reducible rfl
            try simp only [List.getElem_toArray, List.getElem_cons_zero, List.getElem_cons_succ, Act.put, List.setIfInBounds_toArray, List.set_cons_zero, List.set_cons_succ]
            refine anyC_done (by kernel_rfl) ?_ _
            have HKd := Lib.hid (show Below w5.heap.size w5 (wr.alloc (.cells #[.int .u32 lo, .int .u32 hi] 32)).drew from Below.drew HK.out.2)
            go_wp2_with fail
            go_roundw
            case rel => exact ⟨q + 1, by omega, by go_num, HKd.out⟩
            case measure => simp [intOf]; omega
          · have hq0I : (0 : Int) < q := by omega
            have hq0d : decide ((0 : Int) < (q : Int)) = true := decide_eq_true hq0I
            have hq0e : decide (0 < q) = true := decide_eq_true (by omega)
            have hq0f : 0 < q := by omega
            obtain ⟨j, hj⟩ : ∃ j, q - 1 = j := ⟨_, rfl⟩
            have hjl : j < (grp P).length := by omega
            obtain ⟨⟨lo2, hi2⟩, hre2⟩ : ∃ p, (grp P)[j] = p := ⟨_, rfl⟩
            have hrj : (grp P)[j]? = some (lo2, hi2) := by rw [List.getElem?_eq_getElem hjl, hre2]
            have hsep : hi2 + 1 < lo := by
              have h := List.pairwise_iff_getElem.1 HG.out.1 j q hjl hql (by omega)
              rw [hre2, hre] at h
              exact h
            have hbd2 := HG.out.2.2.1 _ (List.mem_of_getElem? hrj)
            simp only at hbd2
            have c2 : (wr.alloc (.cells #[.int .u32 lo, .int .u32 hi] 32)).cell? ⟨b, o + j * 2 + 1, none⟩ = some (.int .u32 hi2) := (hbw.cell (p := ⟨b, o + j * 2 + 1, none⟩) hbl).trans (hcl j _ hrj).2
            have hwj : IntKind.i64.wrap ((q : Int) - 1) = (j : Int) := by simp [IntKind.wrap, IntKind.bits, IntKind.signed]; omega
            have hwh : IntKind.u32.wrap (hi2 + 1) = hi2 + 1 := by show (hi2 + 1) % 4294967296 = _; omega
            have hlo : ¬ (lo ≤ hi2 + 1) := by omega
            have hlod : decide (lo ≤ hi2 + 1) = false := decide_eq_false hlo
            have hjm : (j : Int) < m := by omega
            have HK := Lib.hid (And.intro (And.intro hblk c2) hbw)
            clear hblk hbw hbq hre hrq hmem hle hbd hcl hql hq0 hre2 hrj hsep hbd2 c2 hjl hj
            go_upto_region 15 with fail
            try clear hrb
            refine region_anyC (fun W => (Blk W rb 32 #[.int .u32 lo, .int .u32 hi]) ∧ W.cell? ⟨b, o + j * 2 + 1, none⟩ = some (.int .u32 hi2)) (by kernel_rfl) ?_
            refine anyC_take (i := 0) (v := ?_) rfl (by kernel_rfl) (by kernel_rfl) (by kernel_rfl) (fun _ _ _ h => h) (HK.out.1) (Or.inl ⟨by rfl, ?_⟩) ?_
            rotate_left
            · intro W hW
              go_simp
              try with_reducible rfl
            try simp only [List.getElem_toArray, List.getElem_cons_zero, List.getElem_cons_succ, Act.put, List.setIfInBounds_toArray, List.set_cons_zero, List.set_cons_succ]
            refine anyC_take (i := 2) (v := ?_) rfl (by kernel_rfl) (by kernel_rfl) (by kernel_rfl) (fun _ _ _ h => h) (HK.out.1) (Or.inl ⟨by rfl, ?_⟩) ?_
            rotate_left
            · intro W hW
              go_simp
              try with_reducible rfl
            try simp only [List.getElem_toArray, List.getElem_cons_zero, List.getElem_cons_succ, Act.put, List.setIfInBounds_toArray, List.set_cons_zero, List.set_cons_succ]
            refine anyC_take (i := 1) (v := ?_) rfl (by kernel_rfl) (by kernel_rfl) (by kernel_rfl) (fun _ _ _ h => h) (HK.out.1) (Or.inl ⟨by rfl, ?_⟩) ?_
            rotate_left
            · intro W hW
              have x0 : W.cell? ⟨rb, 0, none⟩ = some (.int .u32 lo) := hW.1.cell 0
              have x1 : W.cell? ⟨rb, 1, none⟩ = some (.int .u32 hi) := hW.1.cell 1
              go_simp
              try with_reducible rfl
            try simp only [List.getElem_toArray, List.getElem_cons_zero, List.getElem_cons_succ, Act.put, List.setIfInBounds_toArray, List.set_cons_zero, List.set_cons_succ]
            refine anyC_take (i := 3) (v := ?_) rfl (by kernel_rfl) (by kernel_rfl) (by kernel_rfl) (fun _ _ _ h => h) (HK.out.1) (Or.inl ⟨by rfl, ?_⟩) ?_
            rotate_left
            · intro W hW
              have x0 : W.cell? ⟨rb, 0, none⟩ = some (.int .u32 lo) := hW.1.cell 0
              have x1 : W.cell? ⟨rb, 1, none⟩ = some (.int .u32 hi) := hW.1.cell 1
              go_simp
              try with_reducible rfl
            try simp only [List.getElem_toArray, List.getElem_cons_zero, List.getElem_cons_succ, Act.put, List.setIfInBounds_toArray, List.set_cons_zero, List.set_cons_succ]
            refine anyC_take (i := 4) (v := ?_) rfl (by kernel_rfl) (by kernel_rfl) (by kernel_rfl) (fun _ _ _ h => h) (HK.out.1) (Or.inl ⟨by rfl, ?_⟩) ?_
            rotate_left
            · intro W hW
              go_simp
              try with_reducible rfl
            try simp only [List.getElem_toArray, List.getElem_cons_zero, List.getElem_cons_succ, Act.put, List.setIfInBounds_toArray, List.set_cons_zero, List.set_cons_succ]
            refine anyC_take (i := 5) (v := ?_) rfl (by kernel_rfl) (by kernel_rfl) (by kernel_rfl) (fun _ _ _ h => h) (HK.out.1) (Or.inl ⟨by rfl, ?_⟩) ?_
            rotate_left
            · intro W hW
              go_simp
              try with_reducible rfl
            try simp only [List.getElem_toArray, List.getElem_cons_zero, List.getElem_cons_succ, Act.put, List.setIfInBounds_toArray, List.set_cons_zero, List.set_cons_succ]
            refine anyC_take (i := 6) (v := ?_) rfl (by kernel_rfl) (by kernel_rfl) (by kernel_rfl) (fun _ _ _ h => h) (HK.out.1) (Or.inl ⟨by rfl, ?_⟩) ?_
            rotate_left
            · intro W hW
              go_simp
              try with_reducible rfl
            try simp only [List.getElem_toArray, List.getElem_cons_zero, List.getElem_cons_succ, Act.put, List.setIfInBounds_toArray, List.set_cons_zero, List.set_cons_succ]
            refine anyC_take (i := 7) (v := ?_) rfl (by kernel_rfl) (by kernel_rfl) (by kernel_rfl) (fun _ _ _ h => h) (HK.out.1) (Or.inl ⟨by rfl, ?_⟩) ?_
            rotate_left
            · intro W hW
              go_simp
              try with_reducible rfl
            try simp only [List.getElem_toArray, List.getElem_cons_zero, List.getElem_cons_succ, Act.put, List.setIfInBounds_toArray, List.set_cons_zero, List.set_cons_succ]
            refine anyC_take (i := 8) (v := ?_) rfl (by kernel_rfl) (by kernel_rfl) (by kernel_rfl) (fun _ _ _ h => h) (HK.out.1) (Or.inl ⟨by rfl, ?_⟩) ?_
            rotate_left
            · intro W hW
              go_simp
              try with_reducible rfl
            try simp only [List.getElem_toArray, List.getElem_cons_zero, List.getElem_cons_succ, Act.put, List.setIfInBounds_toArray, List.set_cons_zero, List.set_cons_succ]
            refine anyC_take (i := 9) (v := ?_) rfl (by kernel_rfl) (by kernel_rfl) (by kernel_rfl) (fun _ _ _ h => h) (HK.out.1) (Or.inl ⟨by rfl, ?_⟩) ?_
            rotate_left
            · intro W hW
              go_simp
              try with_reducible rfl
            try simp only [List.getElem_toArray, List.getElem_cons_zero, List.getElem_cons_succ, Act.put, List.setIfInBounds_toArray, List.set_cons_zero, List.set_cons_succ]
            refine anyC_take (i := 11) (v := ?_) rfl (by kernel_rfl) (by kernel_rfl) (by kernel_rfl) (fun _ _ _ h => h) (HK.out.1) (Or.inl ⟨by rfl, ?_⟩) ?_
            rotate_left
            · intro W hW
              go_simp
              try with_reducible rfl
            try simp only [List.getElem_toArray, List.getElem_cons_zero, List.getElem_cons_succ, Act.put, List.setIfInBounds_toArray, List.set_cons_zero, List.set_cons_succ]
            refine anyC_take (i := 12) (v := ?_) rfl (by kernel_rfl) (by kernel_rfl) (by kernel_rfl) (fun _ _ _ h => h) (HK.out.1) (Or.inl ⟨by rfl, ?_⟩) ?_
            rotate_left
            · intro W hW
              go_simp
              try with_reducible rfl
            try simp only [List.getElem_toArray, List.getElem_cons_zero, List.getElem_cons_succ, Act.put, List.setIfInBounds_toArray, List.set_cons_zero, List.set_cons_succ]
            refine anyC_take (i := 13) (v := ?_) rfl (by kernel_rfl) (by kernel_rfl) (by kernel_rfl) (fun _ _ _ h => h) (HK.out.1) (Or.inl ⟨by rfl, ?_⟩) ?_
            rotate_left
            · intro W hW
              go_simp
              try with_reducible rfl
            try simp only [List.getElem_toArray, List.getElem_cons_zero, List.getElem_cons_succ, Act.put, List.setIfInBounds_toArray, List.set_cons_zero, List.set_cons_succ]
            refine anyC_take (i := 14) (v := ?_) rfl (by kernel_rfl) (by kernel_rfl) (by kernel_rfl) (fun _ _ _ h => h) (HK.out.1) (Or.inl ⟨by rfl, ?_⟩) ?_
            rotate_left
            · intro W hW
              go_simp
              try with_reducible rfl
            try simp only [List.getElem_toArray, List.getElem_cons_zero, List.getElem_cons_succ, Act.put, List.setIfInBounds_toArray, List.set_cons_zero, List.set_cons_succ]
            refine anyC_take (i := 15) (v := ?_) rfl (by kernel_rfl) (by kernel_rfl) (by kernel_rfl) (fun _ _ _ h => h) (HK.out.1) (Or.inl ⟨by rfl, ?_⟩) ?_
            rotate_left
            · intro W hW
              go_simp
              try with_reducible rfl
            try simp only [List.getElem_toArray, List.getElem_cons_zero, List.getElem_cons_succ, Act.put, List.setIfInBounds_toArray, List.set_cons_zero, List.set_cons_succ]
            refine anyC_take (i := 10) (v := ?_) rfl (by kernel_rfl) (by kernel_rfl) (by kernel_rfl) (fun _ _ _ h => h) (HK.out.1) (Or.inl ⟨by rfl, ?_⟩) ?_
            rotate_left
            · intro W hW
              have x0 : W.cell? ⟨rb, 0, none⟩ = some (.int .u32 lo) := hW.1.cell 0
              have x1 : W.cell? ⟨rb, 1, none⟩ = some (.int .u32 hi) := hW.1.cell 1
              go_simp
              try with_reducible rfl
            try simp only [List.getElem_toArray, List.getElem_cons_zero, List.getElem_cons_succ, Act.put, List.setIfInBounds_toArray, List.set_cons_zero, List.set_cons_succ]
            refine anyC_take (i := 16) (v := ?_) rfl (by kernel_rfl) (by kernel_rfl) (by kernel_rfl) (fun _ _ _ h => h) (HK.out.1) (Or.inl ⟨by rfl, ?_⟩) ?_
            rotate_left
            · intro W hW
              have x2 := hW.2
              go_simp
              try with_reducible rfl
            try simp only [List.getElem_toArray, List.getElem_cons_zero, List.getElem_cons_succ, Act.put, List.setIfInBounds_toArray, List.set_cons_zero, List.set_cons_succ]
            refine anyC_take (i := 17) (v := ?_) rfl (by kernel_rfl) (by kernel_rfl) (by kernel_rfl) (fun _ _ _ h => h) (HK.out.1) (Or.inl ⟨by rfl, ?_⟩) ?_
            rotate_left
            · intro W hW
              go_simp
              try with_reducible rfl
            try simp only [List.getElem_toArray, List.getElem_cons_zero, List.getElem_cons_succ, Act.put, List.setIfInBounds_toArray, List.set_cons_zero, List.set_cons_succ]
            refine anyC_take (i := 18) (v := ?_) rfl (by kernel_rfl) (by kernel_rfl) (by kernel_rfl) (fun _ _ _ h => h) (HK.out.1) (Or.inl ⟨by rfl, ?_⟩) ?_
            rotate_left
            · intro W hW
              go_simp
              try with_reducible rfl
            try simp only [List.getElem_toArray, List.getElem_cons_zero, List.getElem_cons_succ, Act.put, List.setIfInBounds_toArray, List.set_cons_zero, List.set_cons_succ]
            refine anyC_take (i := 19) (v := ?_) rfl (by kernel_rfl) (by kernel_rfl) (by kernel_rfl) (fun _ _ _ h => h) (HK.out.1) (Or.inl ⟨by rfl, ?_⟩) ?_
            rotate_left
            · intro W hW
              go_simp
              try with_reducible rfl
            try simp only [List.getElem_toArray, List.getElem_cons_zero, List.getElem_cons_succ, Act.put, List.setIfInBounds_toArray, List.set_cons_zero, List.set_cons_succ]
            refine anyC_take (i := 20) (v := ?_) rfl (by kernel_rfl) (by kernel_rfl) (by kernel_rfl) (fun _ _ _ h => h) (HK.out.1) (Or.inl ⟨by rfl, ?_⟩) ?_
            rotate_left
            · intro W hW
              go_simp
              try with_reducible rfl
            try simp only [List.getElem_toArray, List.getElem_cons_zero, List.getElem_cons_succ, Act.put, List.setIfInBounds_toArray, List.set_cons_zero, List.set_cons_succ]
            refine anyC_done (by kernel_rfl) ?_ _
            have HKd := Lib.hid (show Below w5.heap.size w5 (wr.alloc (.cells #[.int .u32 lo, .int .u32 hi] 32)).drew from Below.drew HK.out.2)
            go_wp2_with fail
            go_roundw
            case rel => exact ⟨q + 1, by omega, by go_num, HKd.out⟩
            case measure => simp [intOf]; omega
        · obtain rfl : q = m := by omega
          have h5 := H5.out.2.2.2.trans (hbq.mono H5.out.2.2.2.size)
          have h5r := H5.out.2.2.1.trans (hbq.mono H5.out.2.2.1.size)
          have HE5 := Lib.hid (And.intro h5 (And.intro h5r hbq))
          clear h5 h5r hbq
          go_wp2_with fail
          refine (HA.out _ HE5.out.1).mono ?_
          rintro e w6 ⟨rfl, hb6⟩
          have H6 := Lib.hid (And.intro (HE5.out.1.trans (hb6.mono HE5.out.1.size)) (And.intro (HE5.out.2.1.trans (hb6.mono HE5.out.2.1.size)) (HE5.out.2.2.trans (hb6.mono HE5.out.2.2.size))))
          clear hb6
          go_wp2_with fail
          refine (HRo.out _ H6.out.2.1).mono ?_
          rintro e w7 ⟨v7, rfl, hB7, hb7⟩
          have hs7 := H6.out.2.2.size
          have H7 := Lib.hid (And.intro (H6.out.1.trans (hb7.mono H6.out.1.size)) (And.intro (H6.out.2.1.trans (hb7.mono H6.out.2.1.size)) (And.intro (H6.out.2.2.trans (hb7.mono hs7)) (RdP.of_buf hB7))))
          have hlm := HC.out.1
          have HE := Lib.hid (eqr_same (H5.out.1.below H7.out.2.2.1 (Nat.le_refl _)) H7.out.2.2.2 (by omega))
          rw [hlm] at HE
          clear hB7 hb7 hs7 hlm
          go_wp2_with fail
          refine HE.out.mono ?_
          rintro e w8 ⟨rfl, q8, rfl⟩
          have H8 := Lib.hid (And.intro (drewn_below H7.out.1 q8) (And.intro (drewn_below H7.out.2.1 q8) (drewn_below H7.out.2.2.1 q8)))
          have hr8 := (H5.out.2.1.below H8.out.2.2 (Nat.le_refl _)).mono H8.out.2.2.size
          have HNu := Lib.hid (numbers_any t (by have := HG.out.2.2.2.2.2.2; omega) ((grp P).map rbP) _ _ hr8 (by rw [List.length_map]; have := HC.out.1; omega))
          rw [HC.out.1] at HNu
          clear hr8
          go_wp2_with fail
          refine HNu.out.mono ?_
          rintro e w9 ⟨v9, rfl, hB9, hb9⟩
          have H9 := Lib.hid (And.intro (H8.out.1.trans (hb9.mono H8.out.1.size)) (And.intro (H8.out.2.1.trans (hb9.mono H8.out.2.1.size)) (Rd1.of_buf hB9)))
          clear hB9 hb9
          go_wp2_with fail
          refine (HSo.out _ H9.out.2.1).mono ?_
          rintro e w10 ⟨v10, rfl, hB10, hb10⟩
          have hr9 := H9.out.2.2.below hb10 (Nat.le_refl _)
          rw [n32_list, HG.out.2.2.2.1] at hr9
          have HQ := Lib.hid (eq_u32 hr9 (Rd1.of_buf hB10) (by have := HG.out.2.2.2.2.1; omega) (by have := HG.out.2.2.2.2.1; omega))
          have H10 := Lib.hid (H9.out.1.trans (hb10.mono H9.out.1.size))
          clear hB10 hb10 hr9
          go_wp2_with fail
          refine HQ.out.mono ?_
          rintro e w11 ⟨rfl, q11, rfl⟩
          simp only [decide_true]
          go_wp2_with fail
          go_ret
          exact ⟨by first | rfl | (simp; done), drewn_below H10.out q11⟩
end Go.Proofs.YtpcffnhbodjpbaaGreatDoor
