/- The walk of flag.Each: the single flags of a set. -/
import Derived.Test.YtbbfajjbpalfeaaDoorFlagSpec
import Derived.Test.YtbbfajjbpalfeaaDoorBuf
namespace Go.Proofs.YtbbfajjbpalfeaaDoor
open Go.RowKit

theorem infoFl : (Tryd.prog.info? 22).map (fun i => (i.zero, i.size, i.bytes)) = some (some (.int .u8 0), 1, 1) := by kernel_rfl
/-- A slice of flags that the call has made. -/
def flV (l : List Nat) : List Value := l.map fun x : Nat => Value.int .u8 (x : Int)
def RetF (W : World) (l : List Nat) (e : Ending) (w' : World) : Prop := ∃ v, e = .returned v ∧ Buf w' W.heap.size 1 v l.length (flV l) ∧ Below W.heap.size W w'
theorem flV_one (l : List Nat) : ∀ u ∈ flV l, u.oneCell' = true := by
  intro u hu
  obtain ⟨x, _, rfl⟩ := List.mem_map.1 hu
  rfl
/-- append of one cell's value to a slice of the call's own. -/
theorem buf_app1 {t e : TypeId} {i : TypeInfo} {z : Value} {bytes : Nat} (ht : Tryd.prog.underlying t = some (.slice e)) (hi : Tryd.prog.info? e = some i) (hz : i.zero = some z) (hs : i.size = 1) (hby : i.bytes = bytes) (hzs : z.cells.size = 1) (hb48 : bytes ≤ 128)
    {W w : World} {out : Value} {n : Nat} {xs : List Value} (hbuf : Buf w W.heap.size 1 out n xs) (hw : Below W.heap.size W w) (x : Value) (hx : x.oneCell' = true) (hn : n ≤ 1048576) (T : TypeId) :
    ∃ v' w', (Builtin.append_ #[t, t] t #[out, .slice (some ⟨w.heap.size, 0, none⟩) 1 1]).run Tryd.prog (w.alloc (.cells #[x] T)) = .ok v' w' ∧ Buf w' W.heap.size 1 v' (n + 1) (xs ++ [x]) ∧ Below W.heap.size W w' := by
  have hb0 : Below w.heap.size w (w.alloc (.cells #[x] T)) := (Below.refl _ _).alloc (Nat.le_refl _) _
  have hh := heap_alloc_new w (.cells #[x] T)
  have hsrc : Src (w.alloc (.cells #[x] T)) 1 (some ⟨w.heap.size, 0, none⟩) 1 [x] :=
    ⟨rfl, fun u hu => by obtain rfl := List.mem_singleton.1 hu; exact hx, fun _ => ⟨_, rfl, fun j u hj => by
      have hj' : j < 1 := by have := (List.getElem?_eq_some_iff.1 hj).1; simpa using this
      obtain rfl : j = 0 := by omega
      rw [Go.WideShapes.add_plain]
      simp only [World.cell?, hh]
      simpa using hj⟩⟩
  have h2' := hbuf.below hb0 (Nat.le_refl _)
  obtain ⟨v', w', hrun, hbuf', hgr, hown⟩ := run_append_buf (P := Tryd.prog) _ t t e i z 1 bytes ht hi hz hs hby hzs (by decide) W.heap.size out n _ h2' (some ⟨w.heap.size, 0, none⟩) 1 1 _ hsrc (by unfold maxLen; omega)
    (by
      calc (n + 1) * bytes ≤ 1048577 * 128 := Nat.mul_le_mul (by omega) hb48
        _ ≤ 140737488355328 := by decide) (by have := hw.size; have := hb0.size; omega)
  have hs := hw.size
  have hs0 := hb0.size
  refine ⟨v', w', hrun, hbuf', (hw.trans (hb0.mono hs)).grown hgr (by omega) (fun j hj => ?_)⟩
  rcases h2'.2 with ⟨rfl, _⟩ | ⟨b, off, cap, rfl, hb, _⟩
  · simp [Value.ownBlock] at hj
  · simp only [Value.ownBlock, Option.some.injEq] at hj; omega

set_option maxRecDepth 100000 in
set_option maxHeartbeats 800000 in
theorem each_any (f : Nat) (hf : f < 256) (w : World) :
    Calls Tryd.prog 9 #[.int .u8 f] w (RetF w (eachL f)) := by
  go_enter Tryd.func9, Tryd.ntmps9
  go_wp2
  go_loopw [3, 6] (fun out i wr => ∃ k : Nat, k ≤ 5 ∧ i = .int .i64 k ∧ Buf wr w.heap.size 1 out (eachTo f k).length (flV (eachTo f k)) ∧ Below w.heap.size w wr) (fun _ i _ => 5 - (intOf i).toNat)
  case atStart => exact ⟨0, by omega, rfl, Buf.nil _ _ _, Below.refl _ _⟩
  case round =>
    obtain ⟨k, hk, rfl, hbuf, hb⟩ := hrel
    by_cases hlt : k < 5
    · have hx := and_bits f k hf hlt
      have HN := Lib.hid (eachTo_next f k)
      have hle := eachTo_le f k
      generalize f &&& 2 ^ k = x at hx HN
      have HB := Lib.hid hb
      by_cases hx0 : x = 0
      · have hb0 : ((x : Int) != 0) = false := by subst hx0; rfl
        have HX0 := Lib.hid hx0
        have HBUF := Lib.hid hbuf
        clear hx0 hb hbuf
        go_wp2_with fail
        go_roundw
        case rel => exact ⟨k + 1, by omega, by go_num, by rw [HN.out, if_pos HX0.out]; exact HBUF.out, HB.out⟩
        case measure => simp [intOf]; omega
      · have hb0 : ((x : Int) != 0) = true := by rw [bne_iff_ne]; omega
        have HX0 := Lib.hid hx0
        obtain ⟨i0, hi, hz0, hz1, hz2⟩ := info_parts infoFl
        obtain ⟨v', w', hrun, hbuf', hb'⟩ := buf_app1 Tryd.underlying23 hi hz0 hz1 hz2 rfl (by decide) hbuf hb (.int .u8 (x : Int)) rfl (by omega) 22
        obtain ⟨A, cap, rfl, _, _⟩ := hbuf.src (flV_one _)
        obtain ⟨A', cap', rfl, _, _⟩ := hbuf'.src (fun u hu => by
          rcases List.mem_append.1 hu with h | h
          · exact flV_one _ u h
          · obtain rfl := List.mem_singleton.1 h; rfl)
        have HR := Lib.hid hrun
        have HB2 := Lib.hid (And.intro hbuf' hb')
        clear hx0 hb hbuf hrun hbuf' hb' hi hz0 hz1 hz2
        go_wp2_with (at_builtin; refine wpList_append_run _ rfl (.tmp 15) (.tmp 17) _ _ rfl _ _ rfl rfl _ _ HR.out ?_)
        go_roundw
        case rel =>
          refine ⟨k + 1, by omega, by go_num, ?_, HB2.out.2⟩
          rw [HN.out, if_neg HX0.out]
          unfold flV
          rw [List.length_append, List.map_append]
          exact HB2.out.1
        case measure => simp [intOf]; omega
    · obtain rfl : k = 5 := by omega
      have HB := Lib.hid (And.intro hbuf hb)
      clear hbuf hb
      go_wp2_with fail
      go_ret
      exact ⟨_, rfl, HB.out⟩
end Go.Proofs.YtbbfajjbpalfeaaDoor
