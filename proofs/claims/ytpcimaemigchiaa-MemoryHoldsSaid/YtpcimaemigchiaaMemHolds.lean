/- MemoryHolds, walked. -/
import Derived.Test.YtpcimaemigchiaaMemL
set_option linter.unusedVariables false
set_option linter.unusedSimpArgs false
namespace Go.Eng
open Go Go.Proofs
set_option maxHeartbeats 8000000 in
set_option maxRecDepth 100000 in
theorem holds_ok : Meets Try.prog 7 sL5 := by
  refine meets_plain M5_ok rfl [] (fn := Try.f7) rfl rfl rfl (by decide) fun ⟨ws0, ts0, a, v, k⟩ _ => ?_
  have hw : (ws0.take 170).length ≤ 170 := List.length_take_le _ _
  have ht : (ts0.take 170).length ≤ 170 := List.length_take_le _ _
  repeat' (first | (intro h; first | exact Bool.noConfusion h | (guard_hyp h : true = true; clear h) | (guard_hyp h : false = false; clear h) | (simp only [decide_eq_true_eq, decide_eq_false_iff_not, beq_iff_eq, beq_eq_false_iff_ne, bne_iff_ne, bne_eq_false_iff_eq, Bool.not_eq_true', Bool.not_eq_false', ne_eq, Classical.not_not, Bool.not_true, Bool.not_false] at h) | skip) | ((conv => whnf) <;> (first | exact True.intro | apply And.intro | apply EntP.k0 | apply EntP.k1 | apply EntP.k2 | apply EntP.k3 | apply EntP.k4 | apply EntP.k5 | apply EntP.k6 | apply DrawP.go | (apply AnyP.mk; kernel_rfl) | apply CallP.own0 | apply CallP.own1 | apply CallP.own2 | apply CallP.own3 | apply CallP.nb | apply CutE.go0 | apply CutE.go7 | apply CutE.go6 | apply CutE.go5 | apply CutE.go4 | apply CutE.go3 | apply CutE.go2 | apply CutE.go1 | apply wrapS | (with_reducible exact lenNil) | apply Eq.refl)) | ((first | (with_reducible show rvEq _ _ _ _) | (with_reducible show svEq _ _ _) | (with_reducible show cellEq _ _ _ _) | (with_reducible show blkEq _ _ _)); conv => whnf))
  all_goals try simp only at *
  all_goals generalize ws0.take 170 = ws at *
  all_goals generalize ts0.take 170 = ts at *
  all_goals (by_cases hu : useF ws ts a = 0)
  all_goals first
    | (have hs := storeF_go hu (v := v)
       by_cases hk : k = a
       · subst hk
         have h1 := holds1 hu (v := v)
         have h2 : loadF ws ts k = (ws.getD k.toNat default, 0) := by rw [loadF, if_pos hu]
         simp_all
         done
       · have h1 := holds2 hu hk (v := v)
         simp_all
         done)
    | (have hs := storeF_no hu (v := v)
       simp_all
       done)
    | trace_state
end Go.Eng
