/- Instructions that need no memory: Apply. -/
import Derived.Test.YtgjdbpleoegejaaLoH
import Derived.Test.YtgjdbpleoegejaaLoJ
set_option linter.unusedVariables false
set_option linter.unusedSimpArgs false
namespace Go.Eng
open Go Go.Proofs

set_option maxHeartbeats 8000000 in
set_option maxRecDepth 100000 in
theorem apply_ok : Meets Try.prog 21 sApply := by
  refine meets_plain L6_ok rfl [] (fn := Try.f21) rfl rfl rfl (by decide) fun ⟨⟨pc, r0, r1, r2, r3, r4, r5, r6, r7, fs, st, fa, lf⟩, s, op, a, b, c⟩ hS => ?_
  have hS : SmallT ⟨pc, r0, r1, r2, r3, r4, r5, r6, r7, fs, st, fa, lf⟩ := hS
  by_cases hA : readyF ⟨pc, r0, r1, r2, r3, r4, r5, r6, r7, fs, st, fa, lf⟩ s = 1 ∨ pc = 1000
  · show bodyK Try.prog _ _ _ _ sApply (⟨pc, r0, r1, r2, r3, r4, r5, r6, r7, fs, st, fa, lf⟩, s, op, a, b, c)
    have e1 : sApply.res (⟨pc, r0, r1, r2, r3, r4, r5, r6, r7, fs, st, fa, lf⟩, s, op, a, b, c) = .tup [rTh th0, .c (.i 1)] := by show RV.tup _ = _; rw [apF_A (t := ⟨pc, r0, r1, r2, r3, r4, r5, r6, r7, fs, st, fa, lf⟩) hA]
    unfold bodyK
    rw [e1]
    clear e1
    repeat' (first | (intro h; first | exact Bool.noConfusion h | (guard_hyp h : true = true; clear h) | (guard_hyp h : false = false; clear h) | (simp only [decide_eq_true_eq, decide_eq_false_iff_not, beq_iff_eq, beq_eq_false_iff_ne, bne_iff_ne, bne_eq_false_iff_eq, Bool.not_eq_true', Bool.not_eq_false', ne_eq, Classical.not_not, Bool.not_true, Bool.not_false, beqL_iff, beqL_ff, List.cons.injEq, and_true] at h) | skip) | ((conv => whnf) <;> (first | exact True.intro | apply br_rec | apply And.intro | apply CutE.goTh1 | apply EntP.k0 | apply EntP.k1 | apply EntP.k2 | apply EntP.k3 | apply EntP.k4 | apply EntP.k5 | apply EntP.k6 | apply DrawP.go | (apply AnyP.mk; kernel_rfl) | (refine AggP.go 2 rfl (by kernel_rfl) ?_) | (refine AggP.go 1 rfl (by kernel_rfl) ?_) | (refine AggP.go 3 rfl (by kernel_rfl) ?_) | (refine AggP.go 4 rfl (by kernel_rfl) ?_) | (refine AggP.go 5 rfl (by kernel_rfl) ?_) | (refine AggP.go 8 rfl (by kernel_rfl) ?_) | (refine AggP.go 11 rfl (by kernel_rfl) ?_) | apply CallP.own0 | apply CallP.own1 | apply CallP.own2 | apply CallP.own3 | apply CallP.nb | apply CutE.go0 | apply CutE.go7 | apply CutE.go6 | apply CutE.go5 | apply CutE.go4 | apply CutE.go3 | apply CutE.go2 | apply CutE.go1 | apply RoP.id | apply wrapS | (with_reducible exact lenNil) | apply Eq.refl)) | ((first | (with_reducible show rvEq _ _ _ _) | (with_reducible show svEq _ _ _ _) | (with_reducible show cellEq _ _ _ _) | (with_reducible show blkEq _ _ _)); conv => whnf))
    all_goals try simp only at *
    all_goals first
      | exact hS.1
      | exact hS.2
      | omega
      | (exfalso; omega)
      | trace_state
  by_cases hB : readyF ⟨pc, r0, r1, r2, r3, r4, r5, r6, r7, fs, st, fa, lf⟩ s = 9
  · show bodyK Try.prog _ _ _ _ sApply (⟨pc, r0, r1, r2, r3, r4, r5, r6, r7, fs, st, fa, lf⟩, s, op, a, b, c)
    have e1 : sApply.res (⟨pc, r0, r1, r2, r3, r4, r5, r6, r7, fs, st, fa, lf⟩, s, op, a, b, c) = .tup [rTh th0, .c (.i 9)] := by show RV.tup _ = _; rw [apF_B (t := ⟨pc, r0, r1, r2, r3, r4, r5, r6, r7, fs, st, fa, lf⟩) hA hB]
    unfold bodyK
    rw [e1]
    clear e1
    repeat' (first | (intro h; first | exact Bool.noConfusion h | (guard_hyp h : true = true; clear h) | (guard_hyp h : false = false; clear h) | (simp only [decide_eq_true_eq, decide_eq_false_iff_not, beq_iff_eq, beq_eq_false_iff_ne, bne_iff_ne, bne_eq_false_iff_eq, Bool.not_eq_true', Bool.not_eq_false', ne_eq, Classical.not_not, Bool.not_true, Bool.not_false, beqL_iff, beqL_ff, List.cons.injEq, and_true] at h) | skip) | ((conv => whnf) <;> (first | exact True.intro | apply br_rec | apply And.intro | apply CutE.goTh1 | apply EntP.k0 | apply EntP.k1 | apply EntP.k2 | apply EntP.k3 | apply EntP.k4 | apply EntP.k5 | apply EntP.k6 | apply DrawP.go | (apply AnyP.mk; kernel_rfl) | (refine AggP.go 2 rfl (by kernel_rfl) ?_) | (refine AggP.go 1 rfl (by kernel_rfl) ?_) | (refine AggP.go 3 rfl (by kernel_rfl) ?_) | (refine AggP.go 4 rfl (by kernel_rfl) ?_) | (refine AggP.go 5 rfl (by kernel_rfl) ?_) | (refine AggP.go 8 rfl (by kernel_rfl) ?_) | (refine AggP.go 11 rfl (by kernel_rfl) ?_) | apply CallP.own0 | apply CallP.own1 | apply CallP.own2 | apply CallP.own3 | apply CallP.nb | apply CutE.go0 | apply CutE.go7 | apply CutE.go6 | apply CutE.go5 | apply CutE.go4 | apply CutE.go3 | apply CutE.go2 | apply CutE.go1 | apply RoP.id | apply wrapS | (with_reducible exact lenNil) | apply Eq.refl)) | ((first | (with_reducible show rvEq _ _ _ _) | (with_reducible show svEq _ _ _ _) | (with_reducible show cellEq _ _ _ _) | (with_reducible show blkEq _ _ _)); conv => whnf))
    all_goals try simp only at *
    all_goals first
      | exact hS.1
      | exact hS.2
      | omega
      | exact hB.symm
      | (exfalso; omega)
      | trace_state
  have hR : readyF ⟨pc, r0, r1, r2, r3, r4, r5, r6, r7, fs, st, fa, lf⟩ s = 0 := by rcases readyF_or ⟨pc, r0, r1, r2, r3, r4, r5, r6, r7, fs, st, fa, lf⟩ s with h | h | h <;> first | exact h | exact absurd (Or.inl h) hA | exact absurd h hB
  by_cases hC : inF op 1 15 = false
  · show bodyK Try.prog _ _ _ _ sApply (⟨pc, r0, r1, r2, r3, r4, r5, r6, r7, fs, st, fa, lf⟩, s, op, a, b, c)
    have e1 : sApply.res (⟨pc, r0, r1, r2, r3, r4, r5, r6, r7, fs, st, fa, lf⟩, s, op, a, b, c) = .tup [rTh th0, .c (.i 10)] := by show RV.tup _ = _; rw [apF_C (t := ⟨pc, r0, r1, r2, r3, r4, r5, r6, r7, fs, st, fa, lf⟩) hA hB hC]
    unfold bodyK
    rw [e1]
    clear e1
    repeat' (first | (intro h; first | exact Bool.noConfusion h | (guard_hyp h : true = true; clear h) | (guard_hyp h : false = false; clear h) | (simp only [decide_eq_true_eq, decide_eq_false_iff_not, beq_iff_eq, beq_eq_false_iff_ne, bne_iff_ne, bne_eq_false_iff_eq, Bool.not_eq_true', Bool.not_eq_false', ne_eq, Classical.not_not, Bool.not_true, Bool.not_false, beqL_iff, beqL_ff, List.cons.injEq, and_true] at h) | skip) | ((conv => whnf) <;> (first | exact True.intro | apply br_rec | apply And.intro | apply CutE.goTh1 | apply EntP.k0 | apply EntP.k1 | apply EntP.k2 | apply EntP.k3 | apply EntP.k4 | apply EntP.k5 | apply EntP.k6 | apply DrawP.go | (apply AnyP.mk; kernel_rfl) | (refine AggP.go 2 rfl (by kernel_rfl) ?_) | (refine AggP.go 1 rfl (by kernel_rfl) ?_) | (refine AggP.go 3 rfl (by kernel_rfl) ?_) | (refine AggP.go 4 rfl (by kernel_rfl) ?_) | (refine AggP.go 5 rfl (by kernel_rfl) ?_) | (refine AggP.go 8 rfl (by kernel_rfl) ?_) | (refine AggP.go 11 rfl (by kernel_rfl) ?_) | apply CallP.own0 | apply CallP.own1 | apply CallP.own2 | apply CallP.own3 | apply CallP.nb | apply CutE.go0 | apply CutE.go7 | apply CutE.go6 | apply CutE.go5 | apply CutE.go4 | apply CutE.go3 | apply CutE.go2 | apply CutE.go1 | apply RoP.id | apply wrapS | (with_reducible exact lenNil) | apply Eq.refl)) | ((first | (with_reducible show rvEq _ _ _ _) | (with_reducible show svEq _ _ _ _) | (with_reducible show cellEq _ _ _ _) | (with_reducible show blkEq _ _ _)); conv => whnf))
    all_goals try simp only at *
    all_goals first
      | exact hS.1
      | exact hS.2
      | omega
      | (exfalso; omega)
      | (exfalso; exact Bool.noConfusion (hC.symm.trans h))
      | trace_state
  have hop : 1 ≤ op ∧ op ≤ 15 := by
    by_cases h : 1 ≤ op ∧ op ≤ 15
    · exact h
    · exact absurd (inF_f h) hC
  by_cases hD : mayI op a b c = false
  · exact apply_D hS hA hB hR hC hop hD
  have hm : mayI op a b c = true := by
    cases h : mayI op a b c with
    | true => rfl
    | false => exact absurd h hD
  by_cases h9 : op = 9
  · subst h9
    by_cases hq : getR ⟨pc, r0, r1, r2, r3, r4, r5, r6, r7, fs, st, fa, lf⟩ b < getR ⟨pc, r0, r1, r2, r3, r4, r5, r6, r7, fs, st, fa, lf⟩ c
    · exact apply_E9t hS hA hB hR hC hm hq
    · exact apply_E9f hS hA hB hR hC hm hq
  by_cases h11 : op = 11
  · subst h11
    by_cases hq : getR ⟨pc, r0, r1, r2, r3, r4, r5, r6, r7, fs, st, fa, lf⟩ a = 0
    · exact apply_E11t hS hA hB hR hC hm hq
    · exact apply_E11f hS hA hB hR hC hm hq
  by_cases h12 : op = 12
  · subst h12
    by_cases hq : getR ⟨pc, r0, r1, r2, r3, r4, r5, r6, r7, fs, st, fa, lf⟩ a = 0
    · exact apply_E12t hS hA hB hR hC hm hq
    · exact apply_E12f hS hA hB hR hC hm hq
  exact apply_E1 hS hA hB hR hC hm hop ⟨h9, h11, h12⟩
end Go.Eng
