/- MemoryMakes, walked. -/
import Derived.Test.YtpcimaemigchiaaMemL
set_option linter.unusedVariables false
set_option linter.unusedSimpArgs false
namespace Go.Eng
open Go Go.Proofs
set_option maxHeartbeats 8000000 in
set_option maxRecDepth 100000 in
theorem makes_ok : Meets Try.prog 8 sL3 := by
  refine meets_plain M5_ok rfl [] (fn := Try.f8) rfl rfl rfl (by decide) fun ⟨n, ws0, ts0⟩ _ => ?_
  have hw : (ws0.take 170).length ≤ 170 := List.length_take_le _ _
  have ht : (ts0.take 170).length ≤ 170 := List.length_take_le _ _
  repeat' (first | (intro h; first | exact Bool.noConfusion h | (guard_hyp h : true = true; clear h) | (guard_hyp h : false = false; clear h) | (simp only [decide_eq_true_eq, decide_eq_false_iff_not, beq_iff_eq, beq_eq_false_iff_ne, bne_iff_ne, bne_eq_false_iff_eq, Bool.not_eq_true', Bool.not_eq_false', ne_eq, Classical.not_not, Bool.not_true, Bool.not_false] at h) | skip) | ((conv => whnf) <;> (first | exact True.intro | apply And.intro | apply EntP.k0 | apply EntP.k1 | apply EntP.k2 | apply EntP.k3 | apply EntP.k4 | apply EntP.k5 | apply EntP.k6 | apply DrawP.go | (apply AnyP.mk; kernel_rfl) | apply CallP.own0 | apply CallP.own1 | apply CallP.own2 | apply CallP.own3 | apply CallP.nb | apply CutE.go0 | apply CutE.go7 | apply CutE.go6 | apply CutE.go5 | apply CutE.go4 | apply CutE.go3 | apply CutE.go2 | apply CutE.go1 | apply wrapS | (with_reducible exact lenNil) | apply Eq.refl)) | ((first | (with_reducible show rvEq _ _ _ _) | (with_reducible show svEq _ _ _) | (with_reducible show cellEq _ _ _ _) | (with_reducible show blkEq _ _ _)); conv => whnf))
  all_goals try simp only at *
  all_goals generalize ws0.take 170 = ws at *
  all_goals generalize ts0.take 170 = ts at *
  all_goals have hn0 : n < 1 ∨ 160 < n → newF n = (([], []), 2) := fun h => by rw [newF, if_pos h]
  all_goals have hn1 : ¬ (n < 1 ∨ 160 < n) → newF n = ((List.replicate n.toNat 0, List.replicate n.toNat 0), 0) := fun h => by rw [newF, if_neg h]
  all_goals (by_cases hn : n < 1 ∨ 160 < n)
  all_goals first
    | (have e1 := hn0 hn; clear hn0 hn1; first | omega | (rw [e1]; simp; done) | (show ts.length ≤ 1000000; omega) | (simp_all [sameF, cntM, beqL]; done) | (simp_all [sameF, cntM, beqL]; omega) | trace_state)
    | (have e1 := hn1 hn; clear hn0 hn1; first | omega | (rw [e1]; simp; omega) | (show ts.length ≤ 1000000; omega) | (simp_all [sameF, cntM, beqL]; done) | (simp_all [sameF, cntM, beqL]; omega) | trace_state)
end Go.Eng
