/- The walks of the laws FrameBig and FrameLong. -/
import Derived.Test.YtllboenffepcgaaDoorJ8
import Derived.Test.YtllboenffepcgaaDoorFrmEx
import Derived.Test.YtllboenffepcgaaDoorLawFrm1
set_option linter.unusedVariables false
set_option linter.unusedSimpArgs false
namespace Go.Proofs.YtllboenffepcgaaDoor
open Go.RowKit

theorem repeat_reps (c : UInt8) : ∀ n, Lib.repeatL [c] n = reps n c := by
  intro n
  induction n with
  | zero => rfl
  | succ n ih =>
    rw [Lib.repeatL, ih]
    rfl

/-- '[]byte(T)', and Split behind it. -/
theorem conv_split (T : ByteArray) (b0 : List UInt8) (hT : T.data.toList = b0) (m : Nat) (hm : b0.length = m) (hm2 : m ≤ 524288) (W : World) (hS : Std W) (hM : StdM W) {fs : List Frm} {b' : List UInt8} {p' : Nat} (hr : Run b0 0 fs b' p') (hw : stepF b' p' = .wait) :
    ∃ pv cv W2, (convert 9 26 (.string T)).run Tryd.prog W = .ok (.slice pv m cv) W2 ∧ Below W.heap.size W W2 ∧
      Calls Tryd.prog 16 #[.slice pv m cv] W2 fun x w' => ∃ v, x = .returned (.tuple #[v, .int .i64 (b'.length : Nat)]) ∧ OutF w' (fun k => W2.heap.size ≤ k) v fs ∧ Below W2.heap.size W2 w' := by
  obtain ⟨v, W2, hrun, hbuf, hb⟩ := conv_new W T
  have hs : T.size = b0.length := by rw [← hT]; show T.data.size = _; simp
  rw [hT, hs] at hbuf
  obtain ⟨pv, cv, rfl, hcv, hy⟩ := hbuf.bys
  subst hm
  exact ⟨pv, cv, W2, hrun, hb, (split_any b0 pv cv W2 hy hm2 (hS.below hb) (hM.below hb)).mono fun x w' h => spl_at h hr hw⟩
/-- Two frames, as the walk reads them. -/
theorem OutF.two {W : World} {ok : Nat → Prop} {v : Value} {f g : Frm} (h : OutF W ok v [f, g]) : ∃ b o cv p0 c0 p1 c1, v = .slice (some ⟨b, o, none⟩) 2 cv ∧ 2 ≤ cv ∧ b < W.heap.size ∧ W.cell? ⟨b, o, none⟩ = some (.int .i64 f.kind) ∧ W.cell? ⟨b, o + 1, none⟩ = some (.slice p0 f.data.length c0) ∧ W.cell? ⟨b, o + 2, none⟩ = some (.int .i64 g.kind) ∧ W.cell? ⟨b, o + 2 + 1, none⟩ = some (.slice p1 g.data.length c1) ∧ BysL W ok p0 f.data ∧ BysL W ok p1 g.data := by
  obtain ⟨pv, cv, rfl, hcv, hel⟩ := h.elem
  obtain ⟨b, o, p0, c0, rfl, hb, h1, h2, h3⟩ := hel 0 _ rfl
  obtain ⟨b', o', p1, c1, e, -, h4, h5, h6⟩ := hel 1 _ rfl
  injection e with e
  injection e with e e'
  subst e e'
  exact ⟨b, o, cv, p0, c0, p1, c1, rfl, hcv, hb, by simpa using h1, by simpa using h2, by simpa using h4, by simpa using h5, h3, h6⟩
theorem OutF.lone {W : World} {ok : Nat → Prop} {v : Value} {f : Frm} (h : OutF W ok v [f]) : ∃ b o cv p0 c0, v = .slice (some ⟨b, o, none⟩) 1 cv ∧ 1 ≤ cv ∧ b < W.heap.size ∧ W.cell? ⟨b, o, none⟩ = some (.int .i64 f.kind) ∧ W.cell? ⟨b, o + 1, none⟩ = some (.slice p0 f.data.length c0) ∧ BysL W ok p0 f.data := by
  obtain ⟨pv, cv, rfl, hcv, hel⟩ := h.elem
  obtain ⟨b, o, p0, c0, rfl, hb, h1, h2, h3⟩ := hel 0 _ rfl
  exact ⟨b, o, cv, p0, c0, rfl, hcv, hb, by simpa using h1, by simpa using h2, h3⟩
def strA (l : List UInt8) : ByteArray := ⟨l.toArray⟩
theorem app_data (a b : ByteArray) : (a ++ b).data.toList = a.data.toList ++ b.data.toList := by rw [ByteArray.data_append, Array.toList_append]

set_option maxRecDepth 100000 in
set_option maxHeartbeats 3200000 in
theorem frameBig_walk (k : Nat) (w : World) (hk : k < 256) (hS : Std w) (hM : StdM w) :
    Calls Tryd.prog 7 #[.int .u8 k] w fun e w' => e = .returned (.bool true) ∧ Below w.heap.size w w' := by
  have HA := Lib.hid (fun W (hb : Below w.heap.size w W) => alive05_walk W (hS.below hb) (hM.below hb))
  have HR := Lib.hid (fun W => Tryd.strings_Repeat ⟨#[120]⟩ 65536 W (by decide) (by decide))
  have HS := Lib.hid (fun W (hb : Below w.heap.size w W) => And.intro (hS.below hb) (hM.below hb))
  obtain ⟨X, hX⟩ : ∃ X, reps 65536 120 = X := ⟨_, rfl⟩
  have hXl : X.length = 65536 := by rw [← hX, reps_len]
  have hXk : (X.take 8192).length = 8192 := by rw [List.length_take, hXl]; decide
  have hR1 := ok_run
  have hR2 := big_run 65536 (by decide)
  rw [hX] at hR1 hR2
  have e : (⟨#[120]⟩ : ByteArray).data.toList = [120] := rfl
  simp only [e, repeat_reps, hX] at HR
  obtain ⟨sX, hsX⟩ : ∃ sX : ByteArray, ofL X = sX := ⟨_, rfl⟩
  change Hid (∀ W, Calls _ _ _ W fun e w' => e = .returned (.string (ofL X)) ∧ _) at HR
  rw [hsX] at HR
  have hsz : sX.size ≤ 65536 := by rw [← hsX]; show X.toArray.size ≤ _; rw [List.size_toArray]; omega
  have hdat : sX.data.toList = X := by rw [← hsX]; rfl
  have HX := Lib.hid (And.intro hR1 (And.intro hR2 (And.intro hXl (And.intro hdat hXk))))
  clear hX hXl e hsX hS hM hR1 hR2 hdat hXk
  have hk0 : (k : Int) < 256 := by omega
  rcases Nat.mod_two_eq_zero_or_one k with hm | hm
  · have m1 : (k : Int) % 2 = 0 := by omega
    have m2 : Int.tmod (k : Int) 2 = 0 := by rw [Int.tmod_eq_emod_of_nonneg (by omega)]; exact m1
    clear hm hk
    go_enter Tryd.func7, Tryd.ntmps7
    go_wp2_with fail
    refine (HR.out w).mono ?_
    rintro e w1 ⟨rfl, hb1⟩
    obtain ⟨hR1, hR2, hXl, hdat, hXk⟩ := HX.out
    obtain ⟨pv, cv, W2, hc, hb2, hsp⟩ := conv_split (⟨#[97, 32, 123, 54, 53, 53, 51, 54, 125, 13, 10]⟩ ++ sX ++ ⟨#[13, 10]⟩) (headOk ++ 13 :: 10 :: (X ++ [13, 10])) (by rw [app_data, app_data, hdat]; simp [headOk]) 65549 (by simp [headOk, hXl]) (by decide) w1 (HS.out _ hb1).1 (HS.out _ hb1).2 hR1 wait_nil
    have HC := Lib.hid hc
    have HP := Lib.hid hsp
    have HB := Lib.hid (bcall hb1 hb2)
    have HD := Lib.hid (show (headOk ++ 13 :: 10 :: X).length = 65547 by simp [headOk, hXl])
    clear hR1 hR2 hXl hdat hXk hc hb2 hsp hb1
    go_wp2_with fail
    rw [HC.out]
    simp only [Result.andThen]
    rw [Oper.upon_value]
    go_wp2_with fail
    refine HP.out.mono ?_
    rintro e w3 ⟨v, rfl, hout, hb3⟩
    obtain ⟨g, o, c2, p0, c0, p1, c1, rfl, h1, h2, h3, h4, h5, h6, -, -⟩ := hout.two
    rw [HD.out] at h6
    have HB3 := Lib.hid (bcall HB.out hb3)
    clear hb3 hout
    go_wp2_with fail
    refine (HA.out _ HB3.out).mono ?_
    rintro e w4 ⟨rfl, hb4⟩
    have k3 := hb4.cell (p := ⟨g, o, none⟩) h2
    have k4 := hb4.cell (p := ⟨g, o + 1, none⟩) h2
    have k5 := hb4.cell (p := ⟨g, o + 2, none⟩) h2
    have k6 := hb4.cell (p := ⟨g, o + 2 + 1, none⟩) h2
    rw [h3] at k3
    rw [h4] at k4
    rw [h5] at k5
    rw [h6] at k6
    have HB4 := Lib.hid (bcall HB3.out hb4)
    clear hb4 h3 h4 h5 h6
    simp only [List.length_nil] at k4
    go_wp2_with fail
    go_ret
    exact ⟨rfl, HB4.out⟩
  · have m1 : (k : Int) % 2 = 1 := by omega
    have m2 : Int.tmod (k : Int) 2 = 1 := by rw [Int.tmod_eq_emod_of_nonneg (by omega)]; exact m1
    clear hm hk
    go_enter Tryd.func7, Tryd.ntmps7
    go_wp2_with fail
    refine (HR.out w).mono ?_
    rintro e w1 ⟨rfl, hb1⟩
    obtain ⟨hR1, hR2, hXl, hdat, hXk⟩ := HX.out
    obtain ⟨pv, cv, W2, hc, hb2, hsp⟩ := conv_split (⟨#[97, 32, 123, 54, 53, 53, 51, 55, 125, 13, 10]⟩ ++ sX ++ ⟨#[13, 10]⟩) (headBig ++ 13 :: 10 :: (X ++ [13, 10])) (by rw [app_data, app_data, hdat]; simp [headBig]) 65549 (by simp [headBig, hXl]) (by decide) w1 (HS.out _ hb1).1 (HS.out _ hb1).2 hR2 wait_nil
    have HC := Lib.hid hc
    have HP := Lib.hid hsp
    have HB := Lib.hid (bcall hb1 hb2)
    have HD := Lib.hid hXk
    clear hR1 hR2 hXl hdat hXk hc hb2 hsp hb1
    go_wp2_with fail
    rw [HC.out]
    simp only [Result.andThen]
    rw [Oper.upon_value]
    go_wp2_with fail
    refine HP.out.mono ?_
    rintro e w3 ⟨v, rfl, hout, hb3⟩
    obtain ⟨g, o, c2, p0, c0, p1, c1, rfl, h1, h2, h3, h4, h5, h6, hd0, -⟩ := hout.two
    rw [HD.out] at h6
    have HB3 := Lib.hid (bcall HB.out hb3)
    clear hb3 hout
    go_wp2_with fail
    refine (HA.out _ HB3.out).mono ?_
    rintro e w4 ⟨rfl, hb4⟩
    have k3 := hb4.cell (p := ⟨g, o, none⟩) h2
    have k4 := hb4.cell (p := ⟨g, o + 1, none⟩) h2
    have k5 := hb4.cell (p := ⟨g, o + 2, none⟩) h2
    have k6 := hb4.cell (p := ⟨g, o + 2 + 1, none⟩) h2
    rw [h3] at k3
    rw [h4] at k4
    rw [h5] at k5
    rw [h6] at k6
    have HV := Lib.hid (conv_frm (hd0.keep (ok' := fun _ => True) (KeptOn.below hb4) (fun _ _ _ => trivial)) c0 9 rfl)
    have HB4 := Lib.hid (bcall HB3.out hb4)
    change w4.cell? _ = some (.slice p0 9 c0) at k4
    clear hb4 h3 h4 h5 h6 hd0
    go_wp2_with fail
    rw [HV.out]
    simp only [Result.andThen]
    rw [Oper.upon_value]
    go_wp2_with fail
    go_ret
    exact ⟨rfl, HB4.out⟩
end Go.Proofs.YtllboenffepcgaaDoor
