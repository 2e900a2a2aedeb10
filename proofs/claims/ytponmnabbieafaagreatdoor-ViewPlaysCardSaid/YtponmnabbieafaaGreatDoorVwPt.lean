/- ViewParts: two views side by side; plain laws of parts; the law's own walk. -/
import Derived.Test.YtponmnabbieafaaGreatDoorVwNl
import Derived.Test.YtponmnabbieafaaGreatDoorVwS
set_option linter.unusedVariables false
set_option linter.unusedSimpArgs false
namespace Go.Proofs.YtponmnabbieafaaGreatDoor
open Go Go.RowKit Go.Shelf Go.Lib Go.Sort

/-- The list alone. -/
def stepL (l : List Int) (e : Ev) : List Int := if e.kind = 1 then (if appB l e.uid then l ++ [(e.uid : Int)] else l) else if e.kind = 2 then cutU l e.uid else l
theorem runV_list (E : List Ev) : ∀ s : VSt, (runV s E).1.1 = E.foldl stepL s.1.1 := by
  induction E with
  | nil => intro s; rfl
  | cons e E ih =>
    intro s
    show (runV (evP s e) E).1.1 = _
    rw [ih, List.foldl_cons]
    congr 1
    unfold evP stepL
    split <;> rfl
theorem applyV_list (l : List Int) (g : Bool) (E : List Ev) : (applyV (l, g) E).1.1 = E.foldl stepL l := runV_list E ((l, g), [])
theorem applyV_parts (l : List Int) (g : Bool) (E : List Ev) (m : Nat) : (applyV ((applyV (l, g) (E.take m)).1.1, false) (E.drop m)).1.1 = (applyV (l, g) E).1.1 := by
  rw [applyV_list, applyV_list, applyV_list, ← List.foldl_append, List.take_append_drop]
theorem applyV_facts (l : List Int) (E : List Ev) (ha : asc l) : asc (applyV (l, false) E).1.1 ∧ (applyV (l, false) E).1.1.length ≤ l.length + E.length ∧ (applyV (l, false) E).2.length ≤ 2 * E.length + 1 := by
  obtain ⟨f1, f2, f3⟩ := runV_facts (s := ((l, false), [])) ha E
  refine ⟨f1, f2, ?_⟩
  show (tellV (runV ((l, false), []) E)).2.length ≤ _
  simp only [List.length_nil] at f3
  unfold tellV
  rw [List.length_append]
  split <;> simp <;> omega

/-- Two views that have no block in common. -/
def Two (W : World) (Ba va ia : Nat) (ua : Value) (la : List Int) (Bb vb ib : Nat) (ub : Value) (lb : List Int) : Prop :=
  VwM W Ba va ia ua la false ∧ VwM W Bb vb ib ub lb false ∧ (va ≠ vb ∧ va ≠ ib ∧ ia ≠ vb ∧ ia ≠ ib) ∧ (ua.ownBlock ≠ some vb ∧ ua.ownBlock ≠ some ib ∧ ub.ownBlock ≠ some va ∧ ub.ownBlock ≠ some ia) ∧ ∀ j, ua.ownBlock = some j → ub.ownBlock ≠ some j
theorem Two.swap {W : World} {Ba va ia : Nat} {ua : Value} {la : List Int} {Bb vb ib : Nat} {ub : Value} {lb : List Int} (h : Two W Ba va ia ua la Bb vb ib ub lb) : Two W Bb vb ib ub lb Ba va ia ua la := by
  obtain ⟨h1, h2, ⟨a1, a2, a3, a4⟩, ⟨b1, b2, b3, b4⟩, h5⟩ := h
  exact ⟨h2, h1, ⟨Ne.symm a1, Ne.symm a3, Ne.symm a2, Ne.symm a4⟩, ⟨b3, b4, b1, b2⟩, fun j e e2 => h5 j e2 e⟩
theorem Two.below {W W' : World} {Ba va ia : Nat} {ua : Value} {la : List Int} {Bb vb ib : Nat} {ub : Value} {lb : List Int} (h : Two W Ba va ia ua la Bb vb ib ub lb) (hb : Below W.heap.size W W') : Two W' Ba va ia ua la Bb vb ib ub lb :=
  ⟨h.1.below hb (Nat.le_refl _), h.2.1.below hb (Nat.le_refl _), h.2.2⟩
theorem Two.first {W W' : World} {Ba va ia : Nat} {ua ua' : Value} {la la' : List Int} {Bb vb ib : Nat} {ub : Value} {lb : List Int} (h : Two W Ba va ia ua la Bb vb ib ub lb) (hv : VwM W' Ba va ia ua' la' false) (hf : FrV W W' Ba va ia ua ua') : Two W' Ba va ia ua' la' Bb vb ib ub lb := by
  obtain ⟨h1, h2, ⟨a1, a2, a3, a4⟩, ⟨b1, b2, b3, b4⟩, h5⟩ := h
  obtain ⟨e1, o1⟩ := hf.2.1 vb h2.1.lt (Ne.symm a1) (Ne.symm a3) b1
  obtain ⟨e2, o2⟩ := hf.2.1 ib h2.2.1.1.lt (Ne.symm a2) (Ne.symm a4) b2
  have hown : ∀ k, k < W.heap.size → ub.ownBlock = some k → W'.heap[k]? = W.heap[k]? ∧ ua'.ownBlock ≠ some k := fun k hk e => hf.2.1 k hk (fun e2 => b3 (e2 ▸ e)) (fun e2 => b4 (e2 ▸ e)) (fun e2 => h5 k e2 e)
  exact ⟨hv, ⟨e1.trans h2.1, ⟨e2.trans h2.2.1.1, h2.2.1.2.1.kept hf.2.2 (fun k hk e => (hown k hk e).1), h2.2.1.2.2⟩, h2.2.2⟩, ⟨a1, a2, a3, a4⟩, ⟨o1, o2, b3, b4⟩, fun j e e2 => (hown j (h2.2.1.own_lt j e2).1 e2).2 e⟩
/-- The second view is made behind the first. -/
theorem Two.made {w1 w2 : World} {Ba va ia : Nat} {ua : Value} {la : List Int} {vb ib : Nat} {ub : Value} {lb : List Int} (h1 : VwM w1 Ba va ia ua la false) (h2 : VwM w2 w1.heap.size vb ib ub lb false) (hb : Below w1.heap.size w1 w2) : Two w2 Ba va ia ua la w1.heap.size vb ib ub lb := by
  have h3 := h1.below hb (Nat.le_refl _)
  have q1 := h1.1.lt
  have q2 := h1.2.1.1.lt
  have q3 := h2.2.2.2.2
  have q4 := h2.2.1.2.2.2
  exact ⟨h3, h2, ⟨by omega, by omega, by omega, by omega⟩, ⟨fun e => by have := (h1.2.1.own_lt _ e).1; omega, fun e => by have := (h1.2.1.own_lt _ e).1; omega, fun e => by have := (h2.2.1.own_lt _ e).2; omega, fun e => by have := (h2.2.1.own_lt _ e).2; omega⟩, fun j e e2 => by have := (h1.2.1.own_lt _ e).1; have := (h2.2.1.own_lt _ e2).2; omega⟩
/-- A part of the events. -/
theorem EvR.part {W : World} {pe : Option Addr} {q ce eb : Nat} {E : List Ev} (h : EvR W (.slice pe q ce) E eb) (m : Nat) (hm : m ≤ q) : q = E.length ∧ EvR W (.slice pe m ce) (E.take m) eb ∧ ∀ p2 c2, (m < q → ∀ o, pe = some ⟨eb, o, none⟩ → p2 = some ⟨eb, o + m * 3, none⟩) → EvR W (.slice p2 (q - m) c2) (E.drop m) eb := by
  obtain ⟨p, eo, cap, e, h1, h2⟩ := h
  injection e with e1 e2 e3
  subst e1 e2 e3
  refine ⟨rfl, ⟨pe, eo, ce, by rw [List.length_take, Nat.min_eq_left hm], fun h0 => h1 (by rw [List.length_take] at h0; omega), fun i hi => ?_⟩, fun p2 c2 hp2 => ⟨p2, eo + m * 3, c2, by rw [List.length_drop], fun h0 => ?_, fun i hi => ?_⟩⟩
  · rw [List.length_take] at hi
    rw [List.getElem_take]
    exact h2 i (by omega)
  · rw [List.length_drop] at h0
    exact hp2 (by omega) eo (h1 (by omega))
  · rw [List.length_drop] at hi
    rw [List.getElem_drop]
    obtain ⟨q0, q1, q2⟩ := h2 (m + i) (by omega)
    rw [show eo + m * 3 + i * 3 = eo + (m + i) * 3 by omega]
    exact ⟨q0, q1, q2⟩
set_option maxRecDepth 100000 in
set_option maxHeartbeats 12800000 in
theorem viewParts_walk (us : List Int) (E : List Ev) (eb : Nat) (pe : Option Addr) (ce kk : Nat) (vu : Value) (w : World) (hU : U32 w w.heap.size vu us) (hc : E.length ≤ ce) (hE : EvR w (.slice pe E.length ce) E eb) (heb : E.length = 0 ∨ eb < w.heap.size) (hu : ∀ e ∈ E, e.uid < 4294967296) (hk : kk < 256) (h0 : ∀ x ∈ us, 0 ≤ x) :
    Calls Tryz.prog 4 #[vu, .slice pe E.length ce, .int .u8 kk] w fun e w' => e = .returned (.bool true) ∧ Below w.heap.size w w' := by
  have HA := Lib.hid (fun W => alive_any W)
  obtain ⟨Au, cu, rfl, -, -⟩ := id hU
  obtain ⟨n, hn⟩ : ∃ n, us.length = n := ⟨_, rfl⟩
  obtain ⟨q, hq⟩ : ∃ q, E.length = q := ⟨_, rfl⟩
  by_cases bn : 60 < n
  · have hI : (60 : Int) < n := by omega
    have hd : decide ((60 : Int) < n) = true := decide_eq_true hI
    rw [hn, hq]
    clear hU hE heb hu h0 hc hn hq
    go_enter Tryz.func4, Tryz.ntmps4
    go_wp2_with fail
    refine (HA.out _).mono ?_
    rintro e w1 ⟨rfl, hb⟩
    have HB := Lib.hid hb
    clear hb
    go_wp2_with fail
    go_ret
    exact ⟨rfl, HB.out⟩
  have bnI : ¬ ((60 : Int) < n) := by omega
  have bnd : decide ((60 : Int) < n) = false := decide_eq_false bnI
  by_cases bq : 60 < q
  · have hI : (60 : Int) < q := by omega
    have hd : decide ((60 : Int) < q) = true := decide_eq_true hI
    rw [hn, hq]
    clear hU hE heb hu h0 hc hn hq
    go_enter Tryz.func4, Tryz.ntmps4
    go_wp2_with fail
    refine (HA.out _).mono ?_
    rintro e w1 ⟨rfl, hb⟩
    have HB := Lib.hid hb
    clear hb
    go_wp2_with fail
    go_ret
    exact ⟨rfl, HB.out⟩
  have bqI : ¬ ((60 : Int) < q) := by omega
  have bqd : decide ((60 : Int) < q) = false := decide_eq_false bqI
  obtain ⟨m, hm⟩ : ∃ m, kk % (q + 1) = m := ⟨_, rfl⟩
  have hmq : m ≤ q := by have := Nat.mod_lt kk (show 0 < q + 1 by omega); omega
  have hmod : ((kk : Nat) : Int).tmod ((q : Int) + 1) = (m : Nat) := by
    rw [← hm, show ((q : Int) + 1) = ((q + 1 : Nat) : Int) by omega, Int.ofNat_tmod]
  obtain ⟨-, hE1, hE2⟩ := hE.part m (by omega)
  have HN := Lib.hid (fun W (hb : Below w.heap.size w W) => vnew_mut us (.slice Au us.length cu) W ((hU.below hb (Nat.le_refl _)).mono hb.size) (by omega) h0)
  have HR := Lib.hid (fun W (hb : Below w.heap.size w W) => rnew12_any us (.slice Au us.length cu) W ((hU.below hb (Nat.le_refl _)).mono hb.size) (by omega))
  have hsl : (srtU us).length ≤ 60 := Nat.le_trans (srtU_len us) (by omega)
  have hasc := srtU_asc us
  obtain ⟨vl, hvl⟩ : ∃ vl, srtU us = vl := ⟨_, rfl⟩
  rw [hvl] at HN HR hsl hasc
  have HAp : Hid (∀ (B vb ib : Nat) (sv : Value) (l : List Int) (E2 : List Ev) (p2 : Option Addr) (q2 c2 : Nat) (W : World), Below w.heap.size w W → w.heap.size ≤ B → VwM W B vb ib sv l false → EvR w (.slice p2 q2 c2) E2 eb → (E2.length = 0 ∨ eb < w.heap.size) → (∀ e ∈ E2, e ∈ E) → asc l → l.length + E2.length ≤ 1000 → Calls Tryz.prog 11 #[.pointer (some ⟨vb, 0, none⟩), .slice p2 q2 c2] W fun e w' => ∃ rv v', e = .returned rv ∧ VwM w' B vb ib v' (E2.foldl stepL l) false ∧ FrV W w' B vb ib sv v') := Lib.hid (fun B vb ib sv l E2 p2 q2 c2 W hb hB hv he heb2 hsub ha hl => by
    refine (apply_any B vb ib sv l false E2 _ eb W hv (he.below2 hb heb2) (heb2.imp_right fun h => ⟨by have := hb.size; omega, by have := hv.2.2.2.2; omega, by have := hv.2.1.2.2.2; omega, fun e => by have := (hv.2.1.own_lt _ e).2; omega⟩) ha (by omega) (fun e h => hu e (hsub e h))).mono ?_
    rintro e w' ⟨rv, v', rfl, -, hv', hf, -⟩
    rw [applyV_list] at hv'
    exact ⟨rv, v', rfl, hv', hf⟩)
  have HF : Hid (∀ E2 : List Ev, ∀ l, asc l → asc (E2.foldl stepL l) ∧ (E2.foldl stepL l).length ≤ l.length + E2.length) := Lib.hid (fun E2 l ha => by
    have := applyV_facts l E2 ha
    rw [applyV_list] at this
    exact ⟨this.1, this.2.1⟩)
  have HRA := Lib.hid (fun (v : Value) (W : World) (hb : Below w.heap.size w W) (hv : U32 W W.heap.size v vl) (hvo : ∀ j, v.ownBlock = some j → j < W.heap.size) => rapply_any vl E eb v (.slice pe E.length ce) W hv hvo (hE.below2 hb heb) (heb.imp_right fun h => by have := hb.size; omega) hasc (by omega))
  have hfin : (runR vl E E.length).1.1 = E.foldl stepL vl := by
    rw [← applyV_list vl false E]
    exact (Prod.ext_iff.1 (apply_ref vl E)).1
  rw [hfin] at HRA
  have hpar : (E.drop m).foldl stepL ((E.take m).foldl stepL vl) = E.foldl stepL vl := by rw [← List.foldl_append, List.take_append_drop]
  obtain ⟨fl, hfl⟩ : ∃ fl, E.foldl stepL vl = fl := ⟨_, rfl⟩
  have HX := Lib.hid (And.intro hE1 (And.intro hE2 (And.intro hsl (And.intro hasc (And.intro hpar (And.intro hq (And.intro hE (And.intro heb (And.intro hfl hmq)))))))))
  have hmc : m ≤ ce := by omega
  have hqc : q ≤ ce := by omega
  rw [hfl] at HRA
  rw [hn] at HN HR
  rw [hq] at HRA
  rw [hn, hq]
  clear hU hE heb hu h0 hc hn hvl hE1 hE2 hsl hasc hpar hfl hfin hm hmq hq
  have HM := Lib.hid hmc
  have HQ := Lib.hid hqc
  clear hmc hqc
  go_enter Tryz.func4, Tryz.ntmps4
  go_wp2_with fail
  refine (HN.out _ (Below.refl _ _)).mono ?_
  rintro e w1 ⟨va, ia, sa, rfl, hva, hb1⟩
  have H1 := Lib.hid (And.intro hva hb1)
  clear hva hb1
  go_wp2_with fail
  refine (HN.out _ H1.out.2).mono ?_
  rintro e w2 ⟨vb, ib, sb, rfl, hvb, hb2⟩
  have H2 := Lib.hid (And.intro (Two.made H1.out.1 hvb hb2) (And.intro (H1.out.2.trans (hb2.mono H1.out.2.size)) H1.out.2.size))
  clear hvb hb2
  go_wp2_with fail
  have H2e : Hid (EvR w (.slice pe q ce) E eb) := Lib.hid (by have h := HX.out.2.2.2.2.2.2.1; rw [HX.out.2.2.2.2.2.1] at h; exact h)
  refine (HAp.out _ va ia sa vl E pe q ce _ H2.out.2.1 (Nat.le_refl _) H2.out.1.1 H2e.out HX.out.2.2.2.2.2.2.2.1 (fun _ h => h) HX.out.2.2.2.1 (by have := HX.out.2.2.1; have := HX.out.2.2.2.2.2.1; omega)).mono ?_
  rintro e w3 ⟨r3, s3, rfl, hv3, hf3⟩
  have H3 := Lib.hid (And.intro (H2.out.1.first hv3 hf3) (H2.out.2.1.trans (hf3.1 _ (Nat.le_refl _))))
  clear hv3 hf3 hmod
  have hmI : (m : Int) ≤ ce := by have := HM.out; omega
  have hmc : m ≤ ce := HM.out
  go_wp2_with fail
  have hvb3 : VwM w3 w1.heap.size vb ib sb vl false := H3.out.1.2.1
  refine (HAp.out _ vb ib sb vl (E.take m) pe m ce _ H3.out.2 H2.out.2.2 hvb3 (by have h := HX.out.1; exact h) (by rw [List.length_take]; exact HX.out.2.2.2.2.2.2.2.1.imp_left (fun h => by omega)) (fun _ h => List.mem_of_mem_take h) HX.out.2.2.2.1 (by have := HX.out.2.2.1; have := List.length_take_le m E; have := HX.out.2.2.2.2.2.2.2.2.2; omega)).mono ?_
  rintro e w4 ⟨r4, s4, rfl, hv4, hf4⟩
  have H4 := Lib.hid (And.intro (H3.out.1.swap.first hv4 hf4) (H3.out.2.trans (hf4.1 _ H2.out.2.2)))
  clear hv4 hf4 hvb3
  obtain ⟨p2, hp2⟩ : ∃ p2, (if ce = m then pe else Option.map (fun x => x.add (m * 3)) pe) = p2 := ⟨_, rfl⟩
  have hmq : m ≤ q := HX.out.2.2.2.2.2.2.2.2.2
  have hmqI : (m : Int) ≤ q := by omega
  have hqc : q ≤ ce := HQ.out
  have hqcI : (q : Int) ≤ ce := by omega
  go_wp2_with fail
  have hqE : E.length = q := HX.out.2.2.2.2.2.1
  have hE5 : EvR w (.slice p2 (q - m) (ce - m)) (E.drop m) eb := by
    have h := HX.out.2.1 p2 (ce - m) (fun hlt o e => by
      rw [if_neg (by omega), e] at hp2
      rw [← hp2]
      simp only [Option.map_some, Go.WideShapes.add_plain])
    rw [hqE] at h
    exact h
  have H4a := Lib.hid (And.intro hE5 hqE)
  clear hE5 hqE hp2
  have ha4 : asc ((E.take m).foldl stepL vl) ∧ ((E.take m).foldl stepL vl).length ≤ vl.length + (E.take m).length := HF.out (E.take m) vl HX.out.2.2.2.1
  have hv4 : VwM w4 w1.heap.size vb ib s4 ((E.take m).foldl stepL vl) false := H4.out.1.1
  refine (HAp.out _ vb ib s4 _ (E.drop m) p2 (q - m) (ce - m) _ H4.out.2 H2.out.2.2 hv4 H4a.out.1 (HX.out.2.2.2.2.2.2.2.1.imp_left (fun h => by rw [List.length_drop]; omega)) (fun _ h => List.mem_of_mem_drop h) ha4.1 (by have := HX.out.2.2.1; have := List.length_take_le m E; have := ha4.2; have := H4a.out.2; rw [List.length_drop]; omega)).mono ?_
  rintro e w5 ⟨r5, s5, rfl, hv5, hf5⟩
  rw [HX.out.2.2.2.2.1, HX.out.2.2.2.2.2.2.2.2.1] at hv5
  have hT5 := H4.out.1.first hv5 hf5
  have hta : VwM w5 w.heap.size va ia s3 fl false := by have h := hT5.2.1; rw [HX.out.2.2.2.2.2.2.2.2.1] at h; exact h
  have H5 := Lib.hid (And.intro hta (And.intro hT5.1 (H4.out.2.trans (hf5.1 _ H2.out.2.2))))
  clear hv5 hf5 ha4 hv4 hT5 hta
  go_wp2_with fail
  refine (HR.out _ H5.out.2.2).mono ?_
  rintro e w6 ⟨v6, rfl, hB6, hb6⟩
  have H6 := Lib.hid (And.intro (H5.out.1.below hb6 (Nat.le_refl _)) (And.intro (H5.out.2.1.below hb6 (Nat.le_refl _)) (And.intro (H5.out.2.2.trans (hb6.mono H5.out.2.2.size)) hB6)))
  clear hB6 hb6
  go_wp2_with fail
  refine (HRA.out v6 _ H6.out.2.2.1 (U32.of_buf H6.out.2.2.2) (fun j e => H6.out.2.2.2.ownLt j e)).mono ?_
  rintro e w7 ⟨x7, y7, rfl, hr7⟩
  have hb7 := hr7.2.2.2.1
  have H7 := Lib.hid (And.intro (H6.out.1.below hb7 (Nat.le_refl _)) (And.intro (H6.out.2.1.below hb7 (Nat.le_refl _)) (And.intro (H6.out.2.2.1.trans (hb7.mono H6.out.2.2.1.size)) hr7.2.1)))
  clear hr7 hb7
  have hfl1 : fl.length ≤ 1000 := by have h := (HF.out E vl HX.out.2.2.2.1).2; rw [HX.out.2.2.2.2.2.2.2.2.1] at h; have := HX.out.2.2.1; have := H4a.out.2; omega
  have HFL := Lib.hid hfl1
  clear hfl1
  go_wp2_with fail
  refine (HA.out _).mono ?_
  rintro e w8 ⟨rfl, hb8⟩
  have H8 := Lib.hid (And.intro (H7.out.1.below hb8 (Nat.le_refl _)) (And.intro (H7.out.2.1.below hb8 (Nat.le_refl _)) (And.intro (H7.out.2.2.1.trans (hb8.mono H7.out.2.2.1.size)) ((H7.out.2.2.2.below hb8 (Nat.le_refl _)).mono hb8.size))))
  clear hb8
  go_wp2_with fail
  refine (uidsv_any va fl _ H8.out.1.vwr (by have := HFL.out; omega)).mono ?_
  rintro e w9 ⟨v9, rfl, hB9, hb9⟩
  have H9 := Lib.hid (And.intro (H8.out.1.below hb9 (Nat.le_refl _)) (And.intro (H8.out.2.1.below hb9 (Nat.le_refl _)) (And.intro (H8.out.2.2.1.trans (hb9.mono H8.out.2.2.1.size)) (And.intro ((H8.out.2.2.2.below hb9 (Nat.le_refl _)).mono hb9.size) (Rd1.of_buf hB9)))))
  clear hB9 hb9
  go_wp2_with fail
  refine (eq_u32 H9.out.2.2.2.2 (Rd1.of_u32 H9.out.2.2.2.1) (by have := HFL.out; omega) (by have := HFL.out; omega)).mono ?_
  rintro e w10 ⟨rfl, q10, rfl⟩
  have hz10 := drewn_below (Below.refl w9.heap.size w9) q10
  have H10 := Lib.hid (And.intro (H9.out.1.below hz10 (Nat.le_refl _)) (And.intro (H9.out.2.1.below hz10 (Nat.le_refl _)) (And.intro (drewn_below H9.out.2.2.1 q10) (H9.out.2.2.2.1.below hz10 (Nat.le_refl _)))))
  clear hz10
  simp only [decide_true]
  go_wp2_with fail
  refine (uidsv_any vb fl _ H10.out.2.1.vwr (by have := HFL.out; omega)).mono ?_
  rintro e w11 ⟨v11, rfl, hB11, hb11⟩
  have H11 := Lib.hid (And.intro (H10.out.1.below hb11 (Nat.le_refl _)) (And.intro (H10.out.2.1.below hb11 (Nat.le_refl _)) (And.intro (H10.out.2.2.1.trans (hb11.mono H10.out.2.2.1.size)) (And.intro ((H10.out.2.2.2.below hb11 (Nat.le_refl _)).mono hb11.size) (Rd1.of_buf hB11)))))
  clear hB11 hb11
  go_wp2_with fail
  refine (eq_u32 H11.out.2.2.2.2 (Rd1.of_u32 H11.out.2.2.2.1) (by have := HFL.out; omega) (by have := HFL.out; omega)).mono ?_
  rintro e w12 ⟨rfl, q12, rfl⟩
  have hz12 := drewn_below (Below.refl w11.heap.size w11) q12
  have H12 := Lib.hid (And.intro (H11.out.1.below hz12 (Nat.le_refl _)) (And.intro (H11.out.2.1.below hz12 (Nat.le_refl _)) (And.intro (drewn_below H11.out.2.2.1 q12) (H11.out.2.2.2.1.below hz12 (Nat.le_refl _)))))
  clear hz12
  simp only [decide_true]
  go_wp2_with fail
  go_ret
  exact ⟨by first | rfl | (simp; done), H12.out.2.2.1⟩
end Go.Proofs.YtponmnabbieafaaGreatDoor
