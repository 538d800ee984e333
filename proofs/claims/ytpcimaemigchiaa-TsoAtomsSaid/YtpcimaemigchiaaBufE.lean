/- The buffer's reference: Push. -/
import Derived.Test.YtpcimaemigchiaaBufD
set_option linter.unusedVariables false
set_option linter.unusedSimpArgs false
namespace Go.Eng
open Go Go.Proofs

def sRPush : FSpec := spec (List Put × Put) (fun (b, p) => [.c (putsS b), .agg (encP p)]) (fun (b, _) => b.length ≤ 1000000) fun (b, p) => .c (putsS (b ++ [p]))
set_option maxHeartbeats 2000000 in
set_option maxRecDepth 100000 in
theorem rpush_ok : Meets Try.prog 25 sRPush := by
  refine meets_plain (gok_nil _) rfl [] (fn := Try.f25) rfl rfl rfl (by decide) fun ⟨b, p⟩ hl => ?_
  repeat' (first | (intro h; first | exact Bool.noConfusion h | (guard_hyp h : true = true; clear h) | (guard_hyp h : false = false; clear h) | (simp only [decide_eq_true_eq, decide_eq_false_iff_not, beq_iff_eq, beq_eq_false_iff_ne, bne_iff_ne, bne_eq_false_iff_eq, Bool.not_eq_true', Bool.not_eq_false', ne_eq, Classical.not_not, Bool.not_true, Bool.not_false, beqL_iff, beqL_ff, List.cons.injEq, and_true] at h) | skip) | ((conv => whnf) <;> (first | exact True.intro | apply br_rec | apply And.intro | apply EntP.k0 | apply EntP.k1 | apply EntP.k2 | apply EntP.k3 | apply EntP.k4 | apply EntP.k5 | apply EntP.k6 | apply DrawP.go | (apply AnyP.mk; kernel_rfl) | (refine AggP.go 2 rfl (by kernel_rfl) ?_) | (refine AggP.go 1 rfl (by kernel_rfl) ?_) | (refine AggP.go 3 rfl (by kernel_rfl) ?_) | (refine AggP.go 4 rfl (by kernel_rfl) ?_) | (refine AggP.go 5 rfl (by kernel_rfl) ?_) | (refine AggP.go 8 rfl (by kernel_rfl) ?_) | (refine AggP.go 11 rfl (by kernel_rfl) ?_) | apply CallP.own0 | apply CallP.own1 | apply CallP.own2 | apply CallP.own3 | apply CallP.nb | apply CutE.go0 | apply CutE.go7 | apply CutE.go6 | apply CutE.go5 | apply CutE.go4 | apply CutE.go3 | apply CutE.go2 | apply CutE.go1 | apply RoP.id | apply wrapS | (with_reducible exact lenNil) | apply Eq.refl)) | ((first | (with_reducible show rvEq _ _ _ _) | (with_reducible show svEq _ _ _ _) | (with_reducible show cellEq _ _ _ _) | (with_reducible show blkEq _ _ _)); conv => whnf))
  all_goals have hl : b.length ≤ 1000000 := hl
  all_goals try simp only at *
  all_goals first
    | omega
    | (simp only [List.length_append, List.length_cons, List.length_nil]; omega)
    | (show _ * 16 ≤ _; omega)
    | (rename_i i hi t
       have e0 : ∀ i t, catG 0 (litG (Try.prog.types[24].size) []) (slG encP b) i t = slG encP b i t := fun i t => by simp [catG]
       have e1 : catG 0 (litG (Try.prog.types[24].size) []) (slG encP b) = slG encP b := funext fun i => funext fun t => e0 i t
       rw [e1, Nat.zero_add]
       exact (slG_snoc (enc := encP) rfl rfl i (by simpa using hi) t h).symm)
    | trace_state
end Go.Eng
