/- The buffer: Clone, Pop. -/
import Derived.Test.YtpcimaemigchiaaBufB
set_option linter.unusedVariables false
set_option linter.unusedSimpArgs false
namespace Go.Eng
open Go Go.Proofs

def sClone : FSpec := spec (List Put) (fun l => [.c (putsS l)]) (fun l => l.length ≤ 1000000) fun l => .c (putsS l)

set_option maxHeartbeats 2000000 in
set_option maxRecDepth 100000 in
theorem clone_ok : Meets Try.prog 62 sClone := by
  refine meets_plain (gok_nil _) rfl [] (fn := Try.f62) rfl rfl rfl (by decide) fun l hl => ?_
  repeat' (first | (intro h; first | exact Bool.noConfusion h | (guard_hyp h : true = true; clear h) | (guard_hyp h : false = false; clear h) | (simp only [decide_eq_true_eq, decide_eq_false_iff_not, beq_iff_eq, beq_eq_false_iff_ne, bne_iff_ne, bne_eq_false_iff_eq, Bool.not_eq_true', Bool.not_eq_false', ne_eq, Classical.not_not, Bool.not_true, Bool.not_false, beqL_iff, beqL_ff, List.cons.injEq, and_true] at h) | skip) | ((conv => whnf) <;> (first | exact True.intro | apply br_rec | apply And.intro | apply EntP.k0 | apply EntP.k1 | apply EntP.k2 | apply EntP.k3 | apply EntP.k4 | apply EntP.k5 | apply EntP.k6 | apply DrawP.go | (apply AnyP.mk; kernel_rfl) | (refine AggP.go 2 rfl (by kernel_rfl) ?_) | (refine AggP.go 1 rfl (by kernel_rfl) ?_) | (refine AggP.go 3 rfl (by kernel_rfl) ?_) | (refine AggP.go 4 rfl (by kernel_rfl) ?_) | (refine AggP.go 5 rfl (by kernel_rfl) ?_) | (refine AggP.go 8 rfl (by kernel_rfl) ?_) | (refine AggP.go 11 rfl (by kernel_rfl) ?_) | apply CallP.own0 | apply CallP.own1 | apply CallP.own2 | apply CallP.own3 | apply CallP.nb | apply CutE.go0 | apply CutE.go7 | apply CutE.go6 | apply CutE.go5 | apply CutE.go4 | apply CutE.go3 | apply CutE.go2 | apply CutE.go1 | apply RoP.id | apply wrapS | (with_reducible exact lenNil) | apply Eq.refl)) | ((first | (with_reducible show rvEq _ _ _ _) | (with_reducible show svEq _ _ _ _) | (with_reducible show cellEq _ _ _ _) | (with_reducible show blkEq _ _ _)); conv => whnf))
  all_goals have hl : l.length ≤ 1000000 := hl
  all_goals try simp only at *
  all_goals first
    | omega
    | (show (0 + l.length) * 16 ≤ _; omega)
    | trace_state

def sPop : FSpec := spec (List Put) (fun l => [.c (putsS l)]) (fun l => l.length ≤ 1000000) fun l => .tup [.agg (encP (l.getD 0 default)), .c (putsS (l.drop 1)), .c (.i (if l.length = 0 then 8 else 0))]

def B2 : List (Nat × FSpec) := [(62, sClone)]
theorem B2_ok : GOK Try.prog (tab B2) := gok_cons clone_ok (gok_nil _)

set_option maxHeartbeats 2000000 in
set_option maxRecDepth 100000 in
theorem pop_ok : Meets Try.prog 20 sPop := by
  refine meets_plain B2_ok rfl [] (fn := Try.f20) rfl rfl rfl (by decide) fun l hl => ?_
  repeat' (first | (intro h; first | exact Bool.noConfusion h | (guard_hyp h : true = true; clear h) | (guard_hyp h : false = false; clear h) | (simp only [decide_eq_true_eq, decide_eq_false_iff_not, beq_iff_eq, beq_eq_false_iff_ne, bne_iff_ne, bne_eq_false_iff_eq, Bool.not_eq_true', Bool.not_eq_false', ne_eq, Classical.not_not, Bool.not_true, Bool.not_false, beqL_iff, beqL_ff, List.cons.injEq, and_true] at h) | skip) | ((conv => whnf) <;> (first | exact True.intro | apply br_rec | apply And.intro | apply EntP.k0 | apply EntP.k1 | apply EntP.k2 | apply EntP.k3 | apply EntP.k4 | apply EntP.k5 | apply EntP.k6 | apply DrawP.go | (apply AnyP.mk; kernel_rfl) | (refine AggP.go 2 rfl (by kernel_rfl) ?_) | (refine AggP.go 1 rfl (by kernel_rfl) ?_) | (refine AggP.go 3 rfl (by kernel_rfl) ?_) | (refine AggP.go 4 rfl (by kernel_rfl) ?_) | (refine AggP.go 5 rfl (by kernel_rfl) ?_) | (refine AggP.go 8 rfl (by kernel_rfl) ?_) | (refine AggP.go 11 rfl (by kernel_rfl) ?_) | apply CallP.own0 | apply CallP.own1 | apply CallP.own2 | apply CallP.own3 | apply CallP.nb | apply CutE.go0 | apply CutE.go7 | apply CutE.go6 | apply CutE.go5 | apply CutE.go4 | apply CutE.go3 | apply CutE.go2 | apply CutE.go1 | apply RoP.id | apply wrapS | (with_reducible exact lenNil) | apply Eq.refl)) | ((first | (with_reducible show rvEq _ _ _ _) | (with_reducible show svEq _ _ _ _) | (with_reducible show cellEq _ _ _ _) | (with_reducible show blkEq _ _ _)); conv => whnf))
  all_goals have hl : l.length ≤ 1000000 := hl
  all_goals try simp only at *
  all_goals first
    | omega
    | (simp only [List.length_drop]; omega)
    | (have e : l = [] := List.eq_nil_of_length_eq_zero (by omega)
       subst e
       first | rfl | (rename_i i hi t; exact (Nat.not_lt_zero _ hi).elim))
    | (have e : ¬ l.length = 0 := by omega
       simp [e]; done)
    | (show (List.drop 1 l).length ≤ 1000000; rw [List.length_drop]; omega)
    | exact (slG_drop l 1 _ _).symm
    | (rename_i i hi t; rw [List.length_drop] at hi; omega)
    | trace_state
end Go.Eng
