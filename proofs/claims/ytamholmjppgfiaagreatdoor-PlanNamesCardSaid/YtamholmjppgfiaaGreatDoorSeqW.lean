/- resolve.Seqs and UIDs. -/
import Derived.Test.YtamholmjppgfiaaGreatDoorResW
set_option linter.unusedVariables false
set_option linter.unusedSimpArgs false
namespace Go.Proofs.YtamholmjppgfiaaGreatDoor
open Go Go.RowKit Go.Shelf Go.Lib Go.Sort

theorem numsOf_mem {top n : Nat} {l : List Rng} (h : n ∈ numsOf top l) : 1 ≤ n ∧ n ≤ top := by
  unfold numsOf at h
  split at h
  · exact nums_mem.1 (List.mem_filter.1 h).1
  · simp at h
def i64N (n : Nat) : Value := .int .i64 (n : Nat)
set_option maxRecDepth 100000 in
set_option maxHeartbeats 1600000 in
theorem seqs_any (p : Option Addr) (vl : List Int) (l : List RB) (v : Value) (w : World) (hV : VwR w w.heap.size p vl) (hR : RgL w w.heap.size v (l.map RB.rng)) (hvl : vl.length ≤ 1048576) (hl : l.length ≤ 1048576) :
    Calls Tryz.prog 61 #[.pointer p, v] w fun e w' => ∃ v', e = .returned (.tuple #[v', .bool (validB vl.length (l.map RB.rng))]) ∧
      Buf w' w.heap.size 1 v' (numsOf vl.length (l.map RB.rng)).length ((numsOf vl.length (l.map RB.rng)).map i64N) ∧ Below w.heap.size w w' := by
  have HL := Lib.hid (vlen_any p vl w hV)
  obtain ⟨top, ht⟩ : ∃ top, vl.length = top := ⟨_, rfl⟩
  rw [ht] at HL hvl ⊢
  have HA := Lib.hid (valid_any top (l.map RB.rng) v w hR (by rw [List.length_map]; exact hl))
  have HR := Lib.hid (And.intro hR hl)
  have hw : IntKind.u32.wrap (top : Int) = top := by simp [IntKind.wrap, IntKind.bits, IntKind.signed]; omega
  clear hV hR hl ht
  cases hv : validB top (l.map RB.rng) with
  | false =>
    have HN : Hid (numsOf top (l.map RB.rng) = []) := Lib.hid (by unfold numsOf; rw [hv]; rfl)
    rw [hv] at HA
    rw [HN.out]
    clear hv
    go_enter Tryz.func61, Tryz.ntmps61
    go_wp2_with fail
    refine HL.out.mono ?_
    rintro e w0 ⟨rfl, rfl⟩
    go_wp2_with fail
    refine HA.out.mono ?_
    rintro e w1 ⟨rfl, hb⟩
    have HB := Lib.hid hb
    clear hb
    go_wp2_with fail
    go_ret2
    exact ⟨.slice none 0 0, rfl, Buf.nil _ _ _, HB.out⟩
  | true =>
    rw [hv] at HA
    have HNb := Lib.hid (fun w1 hr => numbers_any top hvl l v w1 hr HR.out.2)
    obtain ⟨ns, hns⟩ : ∃ ns, numsOf top (l.map RB.rng) = ns := ⟨_, rfl⟩
    have hbd : ∀ n ∈ ns, n ≤ top := fun n hn => (numsOf_mem (by rw [hns]; exact hn)).2
    have hlen := numsOf_len top (l.map RB.rng)
    rw [hns] at HNb hlen ⊢
    have HX := Lib.hid (And.intro hbd hlen)
    clear hv hns hbd hlen
    go_enter Tryz.func61, Tryz.ntmps61
    go_wp2_with fail
    refine HL.out.mono ?_
    rintro e w0 ⟨rfl, rfl⟩
    go_wp2_with fail
    refine HA.out.mono ?_
    rintro e w1 ⟨rfl, hb⟩
    have HN := Lib.hid (HNb.out w1 ((HR.out.1.below hb (Nat.le_refl _)).mono hb.size))
    have HB := Lib.hid hb
    clear hb
    go_wp2_with fail
    refine HN.out.mono ?_
    rintro e w2 ⟨v2, rfl, hb2, hbel2⟩
    have HE := Lib.hid (each1 ns (fun n => (n : Int)) v2 w2 (Rd1.of_buf hb2) (by have := HX.out.2; omega) (fun W x hx _ => conv_any x (by have := HX.out.1 x hx; omega) W))
    have H2 := Lib.hid hbel2
    clear hb2 hbel2
    go_wp2_with fail
    refine HE.out.mono ?_
    rintro e w3 ⟨v3, rfl, hb3, hbel3⟩
    have H3 := Lib.hid (And.intro hb3 hbel3)
    clear hb3 hbel3
    go_wp2_with fail
    go_ret2
    have hs2 := H2.out.size
    have hs1 := HB.out.size
    exact ⟨v3, rfl, H3.out.1.mono (by omega), (HB.out.trans (H2.out.mono hs1)).trans (H3.out.2.mono (by omega))⟩
/-- The identifiers of a set. -/
def uidsOf (vl : List Int) (l : List Rng) : List Int := (numsOf vl.length l).map fun n => vl[n - 1]!
set_option maxRecDepth 100000 in
set_option maxHeartbeats 1600000 in
theorem uids_any (p : Option Addr) (vl : List Int) (l : List RB) (v : Value) (w : World) (hV : VwR w w.heap.size p vl) (hR : RgL w w.heap.size v (l.map RB.rng)) (hvl : vl.length ≤ 1048576) (hl : l.length ≤ 1048576) :
    Calls Tryz.prog 52 #[.pointer p, v] w fun e w' => ∃ v', e = .returned (.tuple #[v', .bool (validB vl.length (l.map RB.rng))]) ∧
      B32 w' w.heap.size v' (uidsOf vl (l.map RB.rng)) ∧ Below w.heap.size w w' := by
  have HS := Lib.hid (seqs_any p vl l v w hV hR hvl hl)
  have HV := Lib.hid (And.intro hV hvl)
  obtain ⟨ok, hok⟩ : ∃ ok, validB vl.length (l.map RB.rng) = ok := ⟨_, rfl⟩
  have HU : Hid (uidsOf vl (l.map RB.rng) = (numsOf vl.length (l.map RB.rng)).map fun n => vl[n - 1]!) := Lib.hid rfl
  rw [HU.out]
  obtain ⟨ns, hns⟩ : ∃ ns, numsOf vl.length (l.map RB.rng) = ns := ⟨_, rfl⟩
  have hbd : ∀ n ∈ ns, 1 ≤ n ∧ n ≤ vl.length := fun n hn => numsOf_mem (by rw [hns]; exact hn)
  have hlen := numsOf_len vl.length (l.map RB.rng)
  rw [hok, hns] at HS
  rw [hns] at hlen HU
  rw [hok, hns]
  have HX := Lib.hid (And.intro hbd hlen)
  clear hok hns hbd hlen HU hV hR hvl hl
  go_enter Tryz.func52, Tryz.ntmps52
  go_wp2_with fail
  refine HS.out.mono ?_
  rintro e w1 ⟨v1, rfl, hb1, hbel1⟩
  have HE := Lib.hid (each2 p ns (fun n => vl[n - 1]!) v1 w1 (Rd1.of_buf hb1) (by have := HX.out.2; have := HV.out.2; omega) (fun W x hx hbW => by
    obtain ⟨h1, h2⟩ := HX.out.1 x hx
    have hi : x - 1 < vl.length := by omega
    have := uid_any p (x - 1) vl vl[x - 1]! W ((HV.out.1.below (hbel1.trans (hbW.mono hbel1.size)) (Nat.le_refl _)).mono (by have := hbel1.size; have := hbW.size; omega)) (by rw [List.getElem?_eq_getElem hi, getElem!_pos vl (x - 1) hi]) HV.out.2
    rw [show ((x - 1 : Nat) : Int) + 1 = (x : Int) by omega] at this
    exact this))
  have H1 := Lib.hid hbel1
  clear hb1 hbel1
  go_wp2_with fail
  refine HE.out.mono ?_
  rintro e w2 ⟨v2, rfl, hb2, hbel2⟩
  have H2 := Lib.hid (And.intro hb2 hbel2)
  clear hb2 hbel2
  go_wp2_with fail
  go_ret2
  refine ⟨v2, rfl, ?_, H1.out.trans (H2.out.2.mono H1.out.size)⟩
  have := H2.out.1.mono H1.out.size
  unfold B32
  rw [List.length_map, List.map_map]
  exact this
end Go.Proofs.YtamholmjppgfiaaGreatDoor
