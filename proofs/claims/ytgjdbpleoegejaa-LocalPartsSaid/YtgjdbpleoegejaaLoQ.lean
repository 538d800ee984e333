/- LocalParts, walked. -/
import Derived.Test.YtgjdbpleoegejaaLoP
set_option linter.unusedVariables false
set_option linter.unusedSimpArgs false
namespace Go.Eng
open Go Go.Proofs

theorem runW_shift {s : Int} {code : List Ins} : ∀ (k : Nat) (t : Th) (n : Nat), runW s code k t n = ((runW s code k t 0).1, (runW s code k t 0).2 + n)
  | 0, t, n => by simp [runW]
  | k + 1, t, n => by
    rw [runW, runW]
    split
    · rw [runW_shift k _ (n + 1), runW_shift k _ (0 + 1)]
      refine Prod.ext rfl ?_
      show _ + (n + 1) = _ + (0 + 1) + n
      omega
    · refine Prod.ext rfl ?_
      show n = 0 + n
      omega
theorem runW_le {s : Int} {code : List Ins} : ∀ (k : Nat) (t : Th), (runW s code k t 0).2 ≤ k
  | 0, t => Nat.le_refl _
  | k + 1, t => by
    rw [runW]
    split
    · rw [runW_shift]
      have := runW_le (s := s) (code := code) k (apAt s code t).1
      show (runW s code k (apAt s code t).1 0).2 + (0 + 1) ≤ _
      omega
    · exact Nat.zero_le _
theorem runW_parts {s : Int} {code : List Ins} : ∀ (i j : Nat) (t : Th), runW s code (i + j) t 0 = ((runW s code j (runW s code i t 0).1 0).1, (runW s code i t 0).2 + (runW s code j (runW s code i t 0).1 0).2) ∧
    ((runW s code i t 0).2 = i ∨ (runW s code j (runW s code i t 0).1 0).2 = 0)
  | 0, j, t => by
    rw [Nat.zero_add]
    refine ⟨Prod.ext rfl ?_, .inl rfl⟩
    show _ = 0 + _
    rw [Nat.zero_add]
    rfl
  | i + 1, j, t => by
    rw [show i + 1 + j = (i + j) + 1 by omega]
    by_cases hc : t.pc < (code.length : Int) ∧ (apAt s code t).2 = 0
    · have e1 : runW s code (i + j + 1) t 0 = runW s code (i + j) (apAt s code t).1 1 := by rw [runW, if_pos hc]
      have e2 : runW s code (i + 1) t 0 = runW s code i (apAt s code t).1 1 := by rw [runW, if_pos hc]
      obtain ⟨h1, h2⟩ := runW_parts i j (apAt s code t).1
      rw [e1, e2, runW_shift (i + j) _ 1, runW_shift i _ 1, h1]
      refine ⟨Prod.ext rfl ?_, ?_⟩
      · exact Nat.add_right_comm _ _ _
      · rcases h2 with h2 | h2
        · exact .inl (by show _ + 1 = i + 1; omega)
        · exact .inr h2
    · have e0 : ∀ k, runW s code k t 0 = (t, 0) := fun k => by
        cases k with
        | zero => rfl
        | succ k => rw [runW, if_neg hc]
      rw [e0, e0, e0]
      exact ⟨rfl, .inr rfl⟩
/-- What two runs, one behind the other, and both at once tell. -/
theorem parts_cases {t : Th} {s : Int} {code : List Ins} {o u : Int} (ho : 0 ≤ o ∧ o < 200) (hu : 0 ≤ u ∧ u < 200) :
    (∃ a e, runF t s code o = (a, 0, e) ∧ ¬ e = 0 ∧ SmallT a) ∨ ∃ a n b k, runF t s code o = (a, n, 0) ∧ runF a s code u = (b, k, 0) ∧ runF t s code (IntKind.i64.wrap (o + u)) = (b, n + k, 0) ∧ (n : Int) ≤ o ∧ ((n : Int) = o ∨ k = 0) ∧ SmallT a ∧ SmallT b ∧ (k : Int) ≤ u := by
  rcases readyF_or t s with h | h | h
  · right
    have hr := runW_inv (s := s) (code := code) o.toNat t 0 h
    have hr2 := runW_inv (s := s) (code := code) u.toNat _ 0 hr
    obtain ⟨h1, h2⟩ := runW_parts (s := s) (code := code) o.toNat u.toNat t
    have h3 := runW_le (s := s) (code := code) o.toNat t
    have h4 := runW_le (s := s) (code := code) u.toNat (runW s code o.toNat t 0).1
    refine ⟨_, _, _, _, runF_C (by omega) (by omega), runF_C (by omega) (by omega), ?_, by omega, ?_, small_R (readyF_iff.1 hr).1, small_R (readyF_iff.1 hr2).1, by omega⟩
    · rw [wrap_i64 (by omega), runF_C (by omega) (by omega), show (o + u).toNat = o.toNat + u.toNat by omega, h1]
    · omega
  · exact .inl ⟨_, _, runF_A (.inl h), by omega, small0⟩
  · exact .inl ⟨_, _, runF_B (by omega) h, by omega, small0⟩
theorem rem200 (x : Int) : 0 ≤ (IntKind.i64.wrap (x.tmod 200 + 200)).tmod 200 ∧ (IntKind.i64.wrap (x.tmod 200 + 200)).tmod 200 < 200 := by
  have h1 : -200 < x.tmod 200 ∧ x.tmod 200 < 200 := by
    have := Int.tmod_lt_of_pos x (b := 200) (by omega)
    have := Int.lt_tmod_of_pos x (b := 200) (by omega)
    omega
  rw [wrap_i64 (by omega)]
  have h2 := Int.tmod_lt_of_pos (x.tmod 200 + 200) (b := 200) (by omega)
  have h3 := Int.tmod_nonneg (a := x.tmod 200 + 200) 200 (by omega)
  omega
def sLParts : FSpec := spec (Th × Int × List Ins × Int × Int) (fun (t, s, code, o, u) => [.agg (thC t), .i s, .c (codeS code), .i o, .i u]) (fun _ => True) fun _ => .b true
set_option maxHeartbeats 8000000 in
set_option maxRecDepth 100000 in
theorem lparts_ok : Meets Try.prog 10 sLParts := by
  refine meets_plain LR_ok rfl [2] (fn := Try.f10) rfl rfl rfl (by decide) fun ⟨⟨pc, r0, r1, r2, r3, r4, r5, r6, r7, fs, st, fa, lf⟩, s, code, one, two⟩ _ => ?_
  have hw : (fs.take 8).length ≤ 8 := List.length_take_le _ _
  have hg : (lf.take 10).length ≤ 10 := List.length_take_le _ _
  have hk : (code.take 100).length ≤ 100 := List.length_take_le _ _
  repeat' (first | (intro h; first | exact Bool.noConfusion h | (guard_hyp h : true = true; clear h) | (guard_hyp h : false = false; clear h) | (simp only [decide_eq_true_eq, decide_eq_false_iff_not, beq_iff_eq, beq_eq_false_iff_ne, bne_iff_ne, bne_eq_false_iff_eq, Bool.not_eq_true', Bool.not_eq_false', ne_eq, Classical.not_not, Bool.not_true, Bool.not_false, beqL_iff, beqL_ff, List.cons.injEq, and_true] at h) | skip) | ((conv => whnf) <;> (first | exact True.intro | apply br_rec | apply And.intro | apply EntP.k0 | apply EntP.k1 | apply EntP.k2 | apply EntP.k3 | apply EntP.k4 | apply EntP.k5 | apply EntP.k6 | apply DrawP.go | (apply AnyP.mk; kernel_rfl) | (refine AggP.go 2 rfl (by kernel_rfl) ?_) | (refine AggP.go 1 rfl (by kernel_rfl) ?_) | (refine AggP.go 3 rfl (by kernel_rfl) ?_) | (refine AggP.go 4 rfl (by kernel_rfl) ?_) | (refine AggP.go 5 rfl (by kernel_rfl) ?_) | (refine AggP.go 8 rfl (by kernel_rfl) ?_) | (refine AggP.go 11 rfl (by kernel_rfl) ?_) | apply CallP.own0 | apply CallP.own1 | apply CallP.own2 | apply CallP.own3 | apply CallP.nb | apply CutE.go0 | apply CutE.go7 | apply CutE.go6 | apply CutE.go5 | apply CutE.go4 | apply CutE.go3 | apply CutE.go2 | apply CutE.go1 | apply RoP.id | apply wrapS | (with_reducible exact lenNil) | apply Eq.refl)) | ((first | (with_reducible show rvEq _ _ _ _) | (with_reducible show svEq _ _ _ _) | (with_reducible show cellEq _ _ _ _) | (with_reducible show blkEq _ _ _)); conv => whnf))
  all_goals try first
    | omega
    | exact take_lo (m := 100)
    | exact take_hi (m := 100)
  apply CutP.up (G := Int × Int) (fun g => (0 ≤ g.1 ∧ g.1 < 200) ∧ 0 ≤ g.2 ∧ g.2 < 200) [1, 2, 3, 4, 5] (fun g => [(2, .c (codeS (code.take 100))), (3, .i g.1), (4, .i g.2)]) (fun _ => [(0, .row 27 (thC ⟨pc, r0, r1, r2, r3, r4, r5, r6, r7, fs.take 8, st, fa, lf.take 10⟩))]) 1
  apply And.intro
  · repeat' (first | (intro h; first | exact Bool.noConfusion h | (guard_hyp h : true = true; clear h) | (guard_hyp h : false = false; clear h) | (simp only [decide_eq_true_eq, decide_eq_false_iff_not, beq_iff_eq, beq_eq_false_iff_ne, bne_iff_ne, bne_eq_false_iff_eq, Bool.not_eq_true', Bool.not_eq_false', ne_eq, Classical.not_not, Bool.not_true, Bool.not_false, beqL_iff, beqL_ff, List.cons.injEq, and_true] at h) | skip) | ((conv => whnf) <;> (first | exact True.intro | apply br_rec | apply And.intro | refine CutE.at (A := Int × Int) ((IntKind.i64.wrap (one.tmod 200 + 200)).tmod 200, (IntKind.i64.wrap (two.tmod 200 + 200)).tmod 200) ?_ | apply EntP.k0 | apply EntP.k1 | apply EntP.k2 | apply EntP.k3 | apply EntP.k4 | apply EntP.k5 | apply EntP.k6 | apply DrawP.go | (apply AnyP.mk; kernel_rfl) | (refine AggP.go 2 rfl (by kernel_rfl) ?_) | (refine AggP.go 1 rfl (by kernel_rfl) ?_) | (refine AggP.go 3 rfl (by kernel_rfl) ?_) | (refine AggP.go 4 rfl (by kernel_rfl) ?_) | (refine AggP.go 5 rfl (by kernel_rfl) ?_) | (refine AggP.go 8 rfl (by kernel_rfl) ?_) | (refine AggP.go 11 rfl (by kernel_rfl) ?_) | apply CallP.own0 | apply CallP.own1 | apply CallP.own2 | apply CallP.own3 | apply CallP.nb | apply CutE.go0 | apply CutE.go7 | apply CutE.go6 | apply CutE.go5 | apply CutE.go4 | apply CutE.go3 | apply CutE.go2 | apply CutE.go1 | apply RoP.id | apply wrapS | (with_reducible exact lenNil) | apply Eq.refl)) | ((first | (with_reducible show rvEq _ _ _ _) | (with_reducible show svEq _ _ _ _) | (with_reducible show cellEq _ _ _ _) | (with_reducible show blkEq _ _ _)); conv => whnf))
    all_goals first
      | omega
      | exact take_lo (m := 100)
      | exact take_hi (m := 100)
      | exact take_len (m := 100)
      | (apply take_cell (m := 100); assumption)
      | exact (rem200 _).1
      | exact (rem200 _).2
      | trace_state
  rintro ⟨o, u⟩ ⟨ho, hu⟩
  have ho : 0 ≤ o ∧ o < 200 := ho
  have hu : 0 ≤ u ∧ u < 200 := hu
  generalize fs.take 8 = fs at *
  generalize lf.take 10 = lf at *
  generalize code.take 100 = code at *
  have hS : SmallT ⟨pc, r0, r1, r2, r3, r4, r5, r6, r7, fs, st, fa, lf⟩ := ⟨by show fs.length ≤ 1000000; omega, by show lf.length ≤ 1000000; omega⟩
  have wants := parts_cases (t := ⟨pc, r0, r1, r2, r3, r4, r5, r6, r7, fs, st, fa, lf⟩) (s := s) (code := code) ho hu
  repeat' (first | (intro h; first | exact Bool.noConfusion h | (guard_hyp h : true = true; clear h) | (guard_hyp h : false = false; clear h) | (simp only [decide_eq_true_eq, decide_eq_false_iff_not, beq_iff_eq, beq_eq_false_iff_ne, bne_iff_ne, bne_eq_false_iff_eq, Bool.not_eq_true', Bool.not_eq_false', ne_eq, Classical.not_not, Bool.not_true, Bool.not_false, beqL_iff, beqL_ff, List.cons.injEq, and_true] at h) | skip) | ((conv => whnf) <;> (first | exact True.intro | apply br_rec | apply And.intro | apply CutE.goRn | apply CutE.goTh2 | apply CutE.goTh1 | apply CutE.goTh | apply EntP.k0 | apply EntP.k1 | apply EntP.k2 | apply EntP.k3 | apply EntP.k4 | apply EntP.k5 | apply EntP.k6 | apply DrawP.go | (apply AnyP.mk; kernel_rfl) | (refine AggP.go 2 rfl (by kernel_rfl) ?_) | (refine AggP.go 1 rfl (by kernel_rfl) ?_) | (refine AggP.go 3 rfl (by kernel_rfl) ?_) | (refine AggP.go 4 rfl (by kernel_rfl) ?_) | (refine AggP.go 5 rfl (by kernel_rfl) ?_) | (refine AggP.go 8 rfl (by kernel_rfl) ?_) | (refine AggP.go 11 rfl (by kernel_rfl) ?_) | apply CallP.own0 | apply CallP.own1 | apply CallP.own2 | apply CallP.own3 | apply CallP.nb | apply CutE.go0 | apply CutE.go7 | apply CutE.go6 | apply CutE.go5 | apply CutE.go4 | apply CutE.go3 | apply CutE.go2 | apply CutE.go1 | apply RoP.id | apply wrapS | (with_reducible exact lenNil) | apply Eq.refl)) | ((first | (with_reducible show rvEq _ _ _ _) | (with_reducible show svEq _ _ _ _) | (with_reducible show cellEq _ _ _ _) | (with_reducible show blkEq _ _ _)); conv => whnf))
  all_goals try simp only at *
  all_goals try first
    | exact hS.1
    | exact hS.2
    | exact Nat.zero_le _
    | omega
  all_goals (rcases wants with ⟨⟨pc', r0', r1', r2', r3', r4', r5', r6', r7', fs', st', fa', lf'⟩, e, w, w2, w3⟩ | ⟨⟨pc', r0', r1', r2', r3', r4', r5', r6', r7', fs', st', fa', lf'⟩, n, ⟨_, _, _, _, _, _, _, _, _, _, _, _, _⟩, k, w, w2, w3, w4, w5, w6, w7, w8⟩)
  all_goals try simp only [w] at *
  all_goals try simp only [w2] at *
  all_goals try simp only [w3] at *
  all_goals first
    | contradiction
    | rfl
    | (exfalso; have e : ((n + k : Nat) : Int) = IntKind.i64.wrap ((n : Int) + k) := by (rw [wrap_i64 (by omega)]; rfl)
       contradiction)
    | exact w3.1
    | exact w3.2
    | exact w6.1
    | exact w6.2
    | exact w7.1
    | exact w7.2
    | omega
    | (exfalso; omega)
    | exact (thEq_self _).symm
    | assumption
    | (exfalso; exact Bool.noConfusion ((thEq_self _).symm.trans (by assumption)))
    | (exfalso; simp_all; done)
    | trace_state
end Go.Eng
