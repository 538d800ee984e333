/- LitmusPasses, walked. -/
import Derived.Test.YtgahcoccodhkmaaDoorLtFe
import Derived.Test.YtgahcoccodhkmaaDoorLtV
set_option linter.unusedVariables false
set_option linter.unusedSimpArgs false
namespace Go.Eng
open Go Go.Proofs
theorem right_send : ((List.range 9).all fun a => (List.range 9).all fun b => (List.range 4).all fun d => rightL 2 (d : Nat) (send (1 + (a : Nat)) (1 + (b : Nat))) && rightL 2 (d : Nat) (cross (1 + (a : Nat)) (1 + (b : Nat)))) = true := by decide +kernel
theorem right_one {a b : Nat} {d : Nat} (ha : a < 9) (hb : b < 9) (hd : d < 4) : rightL 2 (d : Nat) (send (1 + (a : Nat)) (1 + (b : Nat))) = true ∧ rightL 2 (d : Nat) (cross (1 + (a : Nat)) (1 + (b : Nat))) = true := by
  have h := List.all_eq_true.1 (List.all_eq_true.1 (List.all_eq_true.1 right_send a (List.mem_range.2 ha)) b (List.mem_range.2 hb)) d (List.mem_range.2 hd)
  rwa [Bool.and_eq_true] at h
theorem dec_iff {p q : Prop} [Decidable p] [Decidable q] (h : p ↔ q) : decide p = decide q := by
  by_cases hp : p
  · rw [decide_eq_true hp, decide_eq_true (h.1 hp)]
  · rw [decide_eq_false hp, decide_eq_false (fun hq => hp (h.2 hq))]
structure PassIn (A B d : Int) : Prop where
  e1 : errF 2 d (send A B) = 0
  e2 : errF 2 d (cross A B) = 0
  p1 : decide ([B, 0, A, B] ∈ outF 2 d (send A B)) = false
  p2 : decide ([B, A, A, B] ∈ outF 2 d (send A B)) = true
  p3 : decide ([0, A, A, B] ∈ outF 2 d (send A B)) = true
  p4 : decide ([0, 0, A, B] ∈ outF 2 d (cross A B)) = decide (0 < d)
theorem pass_in {a b d : Nat} (ha : a < 9) (hb : b < 9) (hd : d < 4) : PassIn (1 + (a : Nat)) (1 + (b : Nat)) (d : Nat) := by
  obtain ⟨h1, h2⟩ := right_one ha hb hd
  have hp := pass_one ha hb hd
  unfold passB at hp
  simp only [Bool.and_eq_true, Bool.not_eq_true', beq_iff_eq] at hp
  obtain ⟨⟨⟨q1, q2⟩, q3⟩, q4⟩ := hp
  have m1 := fun r => dec_iff (outF_mem h1 r)
  have m2 := fun r => dec_iff (outF_mem h2 r)
  exact ⟨by unfold errF; rw [if_pos h1], by unfold errF; rw [if_pos h2], (m1 _).trans q1, (m1 _).trans q2, (m1 _).trans q3, (m2 _).trans (q4.trans (dec_iff Int.natCast_pos.symm))⟩
/-- Two threads of two moves each, written out. -/
def litP (w d : Int) (x0 x1 y0 y1 : Mv) : List Cell := [.i w, .i d, .ro 2 1 false (litG 1 [.ro 2 3 false (litG 3 (encM x0 ++ encM x1)), .ro 2 3 false (litG 3 (encM y0 ++ encM y1))])]
noncomputable def sCanP : FSpec := spec (Int × Int × Mv × Mv × Mv × Mv × List Int) (fun (w, d, x0, x1, y0, y1, o) => [.agg (litP w d x0 x1 y0 y1), .c (intsS o)]) (fun _ => True)
  fun (w, d, x0, x1, y0, y1, o) => .tup [.c (.b (decide (o ∈ outF w d [[x0, x1], [y0, y1]]))), .c (.i (errF w d [[x0, x1], [y0, y1]]))]
theorem args_twoL {O : Nat → Prop} {w : World} {hs : Names} {l l' : List Cell} {x : RV} {vals : Array Value} (hl : l.length = l'.length) (h : ∀ (i : Nat) (c c' : Cell), l[i]? = some c → l'[i]? = some c' → ∀ u, Rel O w c hs u → Rel O w c' hs u)
    (h1 : ArgsRel O w hs [.s (.agg l), x] vals) : ArgsRel O w hs [.s (.agg l'), x] vals := by
  refine ⟨h1.1, fun i a v ha hv => ?_⟩
  match i, ha with
  | 0, ha =>
    cases ha
    obtain ⟨cs, h2, h3, h4⟩ := h1.2 0 _ v rfl hv
    refine ⟨cs, h2, by rw [h3, hl], fun i c' v' hc hv' => ?_⟩
    have hi : i < l.length := by
      rw [hl]
      exact (List.getElem?_eq_some_iff.1 hc).1
    exact h i l[i] c' (List.getElem?_eq_getElem hi) hc v' (h4 i l[i] v' (List.getElem?_eq_getElem hi) hv')
  | 1, ha => exact h1.2 1 _ v ha hv
theorem two_moves {x0 x1 : Mv} {O : Nat → Prop} {w : World} {u : Value} (hu : Rel O w (.ro 2 3 false (litG 3 (encM x0 ++ encM x1))) noNames u) : Rel O w (slC 3 encM [x0, x1]) noNames u := by
  refine ro_to ?_ hu
  intro i hi t ht u hu
  match i, hi, t, ht with
  | 0, _, 0, _ => exact hu
  | 0, _, 1, _ => exact hu
  | 0, _, 2, _ => exact hu
  | 1, _, 0, _ => exact hu
  | 1, _, 1, _ => exact hu
  | 1, _, 2, _ => exact hu
theorem litP_to {O : Nat → Prop} {w : World} {hs : Names} {a d : Int} {x0 x1 y0 y1 : Mv} {x : RV} {vals : Array Value} (h : ArgsRel O w hs [.s (.agg (litP a d x0 x1 y0 y1)), x] vals) : ArgsRel O w hs [.s (.agg (litC a d [[x0, x1], [y0, y1]])), x] vals := by
  refine args_twoL (l := litP a d x0 x1 y0 y1) rfl ?_ h
  intro i c c' hc hc' u hu
  match i, hc, hc' with
  | 0, hc, hc' => cases hc; cases hc'; exact hu
  | 1, hc, hc' => cases hc; cases hc'; exact hu
  | 2, hc, hc' =>
    cases hc; cases hc'
    refine ro_to ?_ hu
    intro i hi t ht u hu
    obtain rfl : t = 0 := Nat.lt_one_iff.1 ht
    match i, hi with
    | 0, _ => exact two_moves hu
    | 1, _ => exact two_moves hu
  | i + 3, hc, _ => cases hc
theorem short_four (x0 x1 y0 y1 : Mv) : Short [[x0, x1], [y0, y1]] := fun i => by
  match i with
  | 0 => show 2 ≤ 1000; omega
  | 1 => show 2 ≤ 1000; omega
  | i + 2 => exact Nat.zero_le _
theorem canP_ok : Meets Tryd.prog 12 sCanP where
  pn := fun (w, d, x0, x1, y0, y1, o) => can_ok.pn (w, d, [[x0, x1], [y0, y1]], o)
  qn := fun (w, d, x0, x1, y0, y1, o) => can_ok.qn (w, d, [[x0, x1], [y0, y1]], o)
  full := fun (w, d, x0, x1, y0, y1, o) => can_ok.full (w, d, [[x0, x1], [y0, y1]], o)
  kp := fun (w, d, x0, x1, y0, y1, o) => can_ok.kp (w, d, [[x0, x1], [y0, y1]], o)
  body := can_ok.body
  iter := fun _ _ _ h => by cases h
  run := fun (w, d, x0, x1, y0, y1, o) _ _ F hs W vals h1 h2 h3 => by
    have h2 : ArgsRel (Osum F hs (look [])) W hs [.s (.agg (litP w d x0 x1 y0 y1)), .s (.c (intsS o))] vals := h2
    exact can_ok.run (w, d, [[x0, x1], [y0, y1]], o) rfl (short_four x0 x1 y0 y1) F hs W vals h1 (litP_to h2) h3
def remN (x n : Int) : Nat := ((IntKind.i64.wrap (x.tmod n + n)).tmod n).toNat
theorem rem_is {x n : Int} (hn : 1 ≤ n) (h2 : n ≤ 100) : ((remN x n : Nat) : Int) = (IntKind.i64.wrap (x.tmod n + n)).tmod n ∧ (remN x n : Int) < n := by
  have h3 := Int.tmod_lt_of_pos x (show 0 < n by omega)
  have h4 := Int.lt_tmod_of_pos x (show 0 < n by omega)
  have e : IntKind.i64.wrap (x.tmod n + n) = x.tmod n + n := wrap_i64 ⟨by omega, by omega⟩
  unfold remN
  rw [e]
  have h5 := Int.tmod_nonneg n (show 0 ≤ x.tmod n + n by omega)
  have h6 := Int.tmod_lt_of_pos (x.tmod n + n) (show 0 < n by omega)
  omega
theorem rem_one {x : Int} : 1 + (remN x 9 : Int) = IntKind.i64.wrap (1 + (IntKind.i64.wrap (x.tmod 9 + 9)).tmod 9) := by
  have h := @rem_is x 9 (by decide) (by decide)
  rw [← h.1, wrap_i64 ⟨by omega, by omega⟩]
theorem ints_four {q : Nat} {a b c e : Int} (hq : q = 1) (i : Nat) (hi : i < 4) (t : Nat) (ht : t < 1) : slG encI [a, b, c, e] i t = litG q [.i a, .i b, .i c, .i e] i t := by
  subst hq
  obtain rfl : t = 0 := by omega
  match i, hi with
  | 0, _ => rfl
  | 1, _ => rfl
  | 2, _ => rfl
  | 3, _ => rfl
theorem cells_two {q r : Nat} {a b : Cell} (hq : q = 1) (hr : r = 1) (i t : Nat) : litG q [a, b] i t = litG r [a, b] i t := by rw [hq, hr]
noncomputable def KP : List (Nat × FSpec) := (12, sCanP) :: [(9, sAliveL)]
theorem KP_ok : GOK Tryd.prog (tab KP) := gok_cons canP_ok (gok_cons aliveL_ok (gok_nil _))
noncomputable def sPasses : FSpec := spec (Int × Int × Int) (fun (a, b, d) => [.i a, .i b, .i d]) (fun _ => True) fun _ => .b true
set_option maxHeartbeats 1000000 in
set_option maxRecDepth 100000 in
theorem passes_ok : Meets Tryd.prog 6 sPasses := by
  refine meets_plain KP_ok rfl [2, 3, 4, 5, 6, 7, 8] (fn := Tryd.f6) rfl rfl rfl (by decide) fun ⟨a, b, d⟩ _ => ?_
  (conv => whnf)
  apply CutP.to (G := Nat × Nat × Nat) (fun (a, b, d) => a < 9 ∧ b < 9 ∧ d < 4) [0, 1, 2] (fun (a, b, d) => [(0, .i (1 + a)), (1, .i (1 + b)), (2, .i d)]) (fun _ => []) 0
  apply And.intro
  · have r1 := @rem_is a 9 (by decide) (by decide)
    have r2 := @rem_is b 9 (by decide) (by decide)
    have r3 := @rem_is d 4 (by decide) (by decide)
    repeat' (first | exact @id (emp _ = true) | (intro h; first | exact Bool.noConfusion h | (simp only [Qn] at h) | skip) | ((conv => whnf) <;> (first | exact trivial | apply Qa | apply And.intro | refine CutE.at (A := Nat × Nat × Nat) (remN a 9, remN b 9, remN d 4) ?_ | apply Qb | apply Qc | apply Qd | apply Qe | apply Qf | apply Qg | apply Qh | apply Qi | exact QA | exact QP | refine QG ?_ | apply Qj | apply Qk | apply Ql | apply Qm | apply Qo | apply Qp | apply Qw | apply Qv | apply Qu | apply Qt | apply Qs | apply Qr | apply Qq | apply Qx | apply wrapS | apply Qy | (with_reducible exact lenNil) | apply Eq.refl)) | ((with_reducible first | apply Y1 | apply Y2 | apply Y3 | show blkEq _ _ _); conv => whnf))
    all_goals first
      | exact rem_one
      | exact r3.1
      | exact Int.ofNat_lt.1 r1.2
      | exact Int.ofNat_lt.1 r2.2
      | exact Int.ofNat_lt.1 r3.2
      | (rename_i h; cases h)
      | trace_state
  rintro ⟨a, b, d⟩ ⟨ha, hb, hd⟩
  have H := pass_in ha hb hd
  obtain ⟨A, hA⟩ : ∃ A : Int, A = 1 + (a : Nat) := ⟨_, rfl⟩
  obtain ⟨B, hB⟩ : ∃ B : Int, B = 1 + (b : Nat) := ⟨_, rfl⟩
  obtain ⟨D, hD⟩ : ∃ D : Int, D = (d : Nat) := ⟨_, rfl⟩
  (conv => whnf)
  rw [← hA, ← hB, ← hD] at H
  rw [← hA, ← hB, ← hD]
  apply CutP.to (G := Unit) (fun _ => True) [0, 1, 2, 7] (fun _ => [(0, .i A), (1, .i B), (2, .i D), (7, .s (.c (.ptr 0 0)))]) (fun _ => [(0, .row 24 [.i 2, .i D, .osl 1]), (1, .slc 26 1 2 (litG 1 [.ro 2 3 false (litG 3 (encM (0, 0, A) ++ encM (0, 1, B))), .ro 2 3 false (litG 3 (encM (1, 1, 0) ++ encM (1, 0, 0)))]))]) 2
  apply And.intro
  · repeat' (first | exact @id (emp _ = true) | (intro h; first | exact Bool.noConfusion h | (simp only [Qn] at h) | skip) | ((conv => whnf) <;> (first | exact trivial | apply Qa | apply And.intro | apply Qb | apply Qc | apply Qd | apply Qe | apply Qf | apply Qg | apply Qh | apply Qi | exact QA | exact QP | refine QG ?_ | apply Qj | apply Qk | apply Ql | apply Qm | apply Qo | apply Qp | apply Qw | apply Qv | apply Qu | apply Qt | apply Qs | apply Qr | apply Qq | apply Qx | apply wrapS | apply Qy | (with_reducible exact lenNil) | apply Eq.refl)) | ((with_reducible first | apply Y1 | apply Y2 | apply Y3 | show blkEq _ _ _); conv => whnf))
    all_goals first
      | exact H.e1.symm
      | exact H.e2.symm
      | exact H.p1.symm
      | exact H.p2.symm
      | exact H.p3.symm
      | exact H.p4.symm
      | exact ints_four rfl _ (by assumption) _ (by assumption)
      | exact cells_two rfl rfl _ _
      | trace_state
  rintro ⟨⟩ _
  (conv => whnf)
  apply CutP.to (G := Unit) (fun _ => True) [0, 1, 2, 7, 8, 9] (fun _ => [(0, .i A), (1, .i B), (2, .i D), (7, .s (.c (.ptr 0 0))), (8, .s (.c (.b false))), (9, .i 0)]) (fun _ => [(0, .row 24 [.i 2, .i D, .osl 1]), (1, .slc 26 1 2 (litG 1 [.ro 2 3 false (litG 3 (encM (0, 0, A) ++ encM (0, 1, B))), .ro 2 3 false (litG 3 (encM (1, 1, 0) ++ encM (1, 0, 0)))]))]) 2
  apply And.intro
  · repeat' (first | exact @id (emp _ = true) | (intro h; first | exact Bool.noConfusion h | (simp only [Qn] at h) | skip) | ((conv => whnf) <;> (first | exact trivial | apply Qa | apply And.intro | refine CutE.at (A := Int × Int × Mv × Mv × Mv × Mv × List Int) (2, D, (0, 0, A), (0, 1, B), (1, 1, 0), (1, 0, 0), [B, 0, A, B]) ?_ | apply Qb | apply Qc | apply Qd | apply Qe | apply Qf | apply Qg | apply Qh | apply Qi | exact QA | exact QP | refine QG ?_ | apply Qj | apply Qk | apply Ql | apply Qm | apply Qo | apply Qp | apply Qw | apply Qv | apply Qu | apply Qt | apply Qs | apply Qr | apply Qq | apply Qx | apply wrapS | apply Qy | (with_reducible exact lenNil) | apply Eq.refl)) | ((with_reducible first | apply Y1 | apply Y2 | apply Y3 | show blkEq _ _ _); conv => whnf))
    all_goals first
      | exact H.e1.symm
      | exact H.e2.symm
      | exact H.p1.symm
      | exact H.p2.symm
      | exact H.p3.symm
      | exact H.p4.symm
      | exact ints_four rfl _ (by assumption) _ (by assumption)
      | exact cells_two rfl rfl _ _
      | trace_state
  rintro ⟨⟩ _
  (conv => whnf)
  apply CutP.to (G := Unit) (fun _ => True) [0, 1, 2, 7, 8, 9, 10, 11] (fun _ => [(0, .i A), (1, .i B), (2, .i D), (7, .s (.c (.ptr 0 0))), (8, .s (.c (.b false))), (9, .i 0), (10, .s (.c (.b true))), (11, .i 0)]) (fun _ => [(0, .row 24 [.i 2, .i D, .osl 1]), (1, .slc 26 1 2 (litG 1 [.ro 2 3 false (litG 3 (encM (0, 0, A) ++ encM (0, 1, B))), .ro 2 3 false (litG 3 (encM (1, 1, 0) ++ encM (1, 0, 0)))]))]) 2
  apply And.intro
  · repeat' (first | exact @id (emp _ = true) | (intro h; first | exact Bool.noConfusion h | (simp only [Qn] at h) | skip) | ((conv => whnf) <;> (first | exact trivial | apply Qa | apply And.intro | refine CutE.at (A := Int × Int × Mv × Mv × Mv × Mv × List Int) (2, D, (0, 0, A), (0, 1, B), (1, 1, 0), (1, 0, 0), [B, A, A, B]) ?_ | apply Qb | apply Qc | apply Qd | apply Qe | apply Qf | apply Qg | apply Qh | apply Qi | exact QA | exact QP | refine QG ?_ | apply Qj | apply Qk | apply Ql | apply Qm | apply Qo | apply Qp | apply Qw | apply Qv | apply Qu | apply Qt | apply Qs | apply Qr | apply Qq | apply Qx | apply wrapS | apply Qy | (with_reducible exact lenNil) | apply Eq.refl)) | ((with_reducible first | apply Y1 | apply Y2 | apply Y3 | show blkEq _ _ _); conv => whnf))
    all_goals first
      | exact H.e1.symm
      | exact H.e2.symm
      | exact H.p1.symm
      | exact H.p2.symm
      | exact H.p3.symm
      | exact H.p4.symm
      | exact ints_four rfl _ (by assumption) _ (by assumption)
      | exact cells_two rfl rfl _ _
      | trace_state
  rintro ⟨⟩ _
  (conv => whnf)
  apply CutP.to (G := Unit) (fun _ => True) [0, 1, 2, 8, 9, 10, 11, 12, 13] (fun _ => [(0, .i A), (1, .i B), (2, .i D), (8, .s (.c (.b false))), (9, .i 0), (10, .s (.c (.b true))), (11, .i 0), (12, .s (.c (.b true))), (13, .i 0)]) (fun _ => []) 0
  apply And.intro
  · repeat' (first | exact @id (emp _ = true) | (intro h; first | exact Bool.noConfusion h | (simp only [Qn] at h) | skip) | ((conv => whnf) <;> (first | exact trivial | apply Qa | apply And.intro | refine CutE.at (A := Int × Int × Mv × Mv × Mv × Mv × List Int) (2, D, (0, 0, A), (0, 1, B), (1, 1, 0), (1, 0, 0), [0, A, A, B]) ?_ | apply Qb | apply Qc | apply Qd | apply Qe | apply Qf | apply Qg | apply Qh | apply Qi | exact QA | exact QP | refine QG ?_ | apply Qj | apply Qk | apply Ql | apply Qm | apply Qo | apply Qp | apply Qw | apply Qv | apply Qu | apply Qt | apply Qs | apply Qr | apply Qq | apply Qx | apply wrapS | apply Qy | (with_reducible exact lenNil) | apply Eq.refl)) | ((with_reducible first | apply Y1 | apply Y2 | apply Y3 | show blkEq _ _ _); conv => whnf))
    all_goals first
      | exact H.e1.symm
      | exact H.e2.symm
      | exact H.p1.symm
      | exact H.p2.symm
      | exact H.p3.symm
      | exact H.p4.symm
      | exact ints_four rfl _ (by assumption) _ (by assumption)
      | exact cells_two rfl rfl _ _
      | trace_state
  rintro ⟨⟩ _
  (conv => whnf)
  apply CutP.to (G := Unit) (fun _ => True) [0, 1, 2, 8, 9, 10, 11, 12, 13, 14] (fun _ => [(0, .i A), (1, .i B), (2, .i D), (8, .s (.c (.b false))), (9, .i 0), (10, .s (.c (.b true))), (11, .i 0), (12, .s (.c (.b true))), (13, .i 0), (14, .s (.c (.ptr 0 0)))]) (fun _ => [(0, .row 24 [.i 2, .i D, .osl 1]), (1, .slc 26 1 2 (litG 1 [.ro 2 3 false (litG 3 (encM (0, 0, A) ++ encM (1, 1, 0))), .ro 2 3 false (litG 3 (encM (0, 1, B) ++ encM (1, 0, 0)))]))]) 2
  apply And.intro
  · repeat' (first | exact @id (emp _ = true) | (intro h; first | exact Bool.noConfusion h | (simp only [Qn] at h) | skip) | ((conv => whnf) <;> (first | exact trivial | apply Qa | apply And.intro | apply Qb | apply Qc | apply Qd | apply Qe | apply Qf | apply Qg | apply Qh | apply Qi | exact QA | exact QP | refine QG ?_ | apply Qj | apply Qk | apply Ql | apply Qm | apply Qo | apply Qp | apply Qw | apply Qv | apply Qu | apply Qt | apply Qs | apply Qr | apply Qq | apply Qx | apply wrapS | apply Qy | (with_reducible exact lenNil) | apply Eq.refl)) | ((with_reducible first | apply Y1 | apply Y2 | apply Y3 | show blkEq _ _ _); conv => whnf))
    all_goals first
      | exact H.e1.symm
      | exact H.e2.symm
      | exact H.p1.symm
      | exact H.p2.symm
      | exact H.p3.symm
      | exact H.p4.symm
      | exact ints_four rfl _ (by assumption) _ (by assumption)
      | exact cells_two rfl rfl _ _
      | trace_state
  rintro ⟨⟩ _
  (conv => whnf)
  apply CutP.to (G := Unit) (fun _ => True) [2, 8, 9, 10, 11, 12, 13, 15, 16] (fun _ => [(0, .i A), (1, .i B), (2, .i D), (8, .s (.c (.b false))), (9, .i 0), (10, .s (.c (.b true))), (11, .i 0), (12, .s (.c (.b true))), (13, .i 0), (15, .s (.c (.b (decide (0 < D))))), (16, .i 0)]) (fun _ => []) 0
  apply And.intro
  · repeat' (first | exact @id (emp _ = true) | (intro h; first | exact Bool.noConfusion h | (simp only [Qn] at h) | skip) | ((conv => whnf) <;> (first | exact trivial | apply Qa | apply And.intro | refine CutE.at (A := Int × Int × Mv × Mv × Mv × Mv × List Int) (2, D, (0, 0, A), (1, 1, 0), (0, 1, B), (1, 0, 0), [0, 0, A, B]) ?_ | apply Qb | apply Qc | apply Qd | apply Qe | apply Qf | apply Qg | apply Qh | apply Qi | exact QA | exact QP | refine QG ?_ | apply Qj | apply Qk | apply Ql | apply Qm | apply Qo | apply Qp | apply Qw | apply Qv | apply Qu | apply Qt | apply Qs | apply Qr | apply Qq | apply Qx | apply wrapS | apply Qy | (with_reducible exact lenNil) | apply Eq.refl)) | ((with_reducible first | apply Y1 | apply Y2 | apply Y3 | show blkEq _ _ _); conv => whnf))
    all_goals first
      | exact H.e1.symm
      | exact H.e2.symm
      | exact H.p1.symm
      | exact H.p2.symm
      | exact H.p3.symm
      | exact H.p4.symm
      | exact ints_four rfl _ (by assumption) _ (by assumption)
      | exact cells_two rfl rfl _ _
      | trace_state
  rintro ⟨⟩ _
  (conv => whnf)
  repeat' (first | exact @id (emp _ = true) | (intro h; first | exact Bool.noConfusion h | (simp only [Qn] at h) | skip) | ((conv => whnf) <;> (first | exact trivial | apply Qa | apply And.intro | apply Qb | apply Qc | apply Qd | apply Qe | apply Qf | apply Qg | apply Qh | apply Qi | exact QA | exact QP | refine QG ?_ | apply Qj | apply Qk | apply Ql | apply Qm | apply Qo | apply Qp | apply Qw | apply Qv | apply Qu | apply Qt | apply Qs | apply Qr | apply Qq | apply Qx | apply wrapS | apply Qy | (with_reducible exact lenNil) | apply Eq.refl)) | ((with_reducible first | apply Y1 | apply Y2 | apply Y3 | show blkEq _ _ _); conv => whnf))
  all_goals exact (beq_self_eq_true (decide (0 < D))).symm
end Go.Eng
