/- Instructions that need no memory: Apply, of an instruction that may be. -/
import Derived.Test.YtgjdbpleoegejaaLoG
set_option linter.unusedVariables false
set_option linter.unusedSimpArgs false
namespace Go.Eng
open Go Go.Proofs

set_option maxHeartbeats 8000000 in
set_option maxRecDepth 100000 in
theorem apply_E1 {pc r0 r1 r2 r3 r4 r5 r6 r7 : Int} {fs : List FrT} {st fa : Int} {lf : List Int} {s op a b c : Int} (hS : SmallT ⟨pc, r0, r1, r2, r3, r4, r5, r6, r7, fs, st, fa, lf⟩) (hA : ¬ (readyF ⟨pc, r0, r1, r2, r3, r4, r5, r6, r7, fs, st, fa, lf⟩ s = 1 ∨ pc = 1000)) (hB : ¬ readyF ⟨pc, r0, r1, r2, r3, r4, r5, r6, r7, fs, st, fa, lf⟩ s = 9) (hR : readyF ⟨pc, r0, r1, r2, r3, r4, r5, r6, r7, fs, st, fa, lf⟩ s = 0)
    (hC : ¬ inF op 1 15 = false) (hm : mayI op a b c = true) (hop : 1 ≤ op ∧ op ≤ 15) (hno : ¬ op = 9 ∧ ¬ op = 11 ∧ ¬ op = 12) : bodyF Try.prog (tab L6) [] Try.f21 sApply (⟨pc, r0, r1, r2, r3, r4, r5, r6, r7, fs, st, fa, lf⟩, s, op, a, b, c) := by
  show bodyK Try.prog _ _ _ _ sApply (⟨pc, r0, r1, r2, r3, r4, r5, r6, r7, fs, st, fa, lf⟩, s, op, a, b, c)
  have hD : ¬ mayI op a b c = false := by rw [hm]; exact Bool.noConfusion
  have e1 : sApply.res (⟨pc, r0, r1, r2, r3, r4, r5, r6, r7, fs, st, fa, lf⟩, s, op, a, b, c) = .tup [rTh (applyF ⟨pc, r0, r1, r2, r3, r4, r5, r6, r7, fs, st, fa, lf⟩ s op a b c).1, .c (.i (applyF ⟨pc, r0, r1, r2, r3, r4, r5, r6, r7, fs, st, fa, lf⟩ s op a b c).2)] := by show RV.tup _ = _; rw [apF_E (t := ⟨pc, r0, r1, r2, r3, r4, r5, r6, r7, fs, st, fa, lf⟩) hA hB hC hD]
  unfold bodyK
  rw [e1]
  clear e1
  have hr : thR ⟨pc, r0, r1, r2, r3, r4, r5, r6, r7, fs, st, fa, lf⟩ = true := by
    by_cases h : thR ⟨pc, r0, r1, r2, r3, r4, r5, r6, r7, fs, st, fa, lf⟩ = true
    · exact h
    · exfalso
      rw [readyF, if_neg (fun hh => h hh.1)] at hR
      omega
  have hpc : 0 ≤ pc ∧ pc ≤ 1000 := placeF_iff.1 (thR_iff.1 hr).1
  have hH : mayH (regsF op) (jumpF op) a b c = true := (mayH_eq hop).trans hm
  have hm := mayI_iff.1 hm
  have m0 := hm.1 0
  have m1 := hm.1 1
  have m2 := hm.1 2
  clear hm
  have hw : IntKind.i64.wrap (pc + 1) = pc + 1 := wrap_i64 (by omega)
  have hop' : op = 1 ∨ op = 2 ∨ op = 3 ∨ op = 4 ∨ op = 5 ∨ op = 6 ∨ op = 7 ∨ op = 8 ∨ op = 10 ∨ op = 13 ∨ op = 14 ∨ op = 15 := by omega
  rcases hop' with rfl | rfl | rfl | rfl | rfl | rfl | rfl | rfl | rfl | rfl | rfl | rfl
  all_goals repeat' (first | (intro h; first | exact Bool.noConfusion h | (guard_hyp h : true = true; clear h) | (guard_hyp h : false = false; clear h) | (simp only [decide_eq_true_eq, decide_eq_false_iff_not, beq_iff_eq, beq_eq_false_iff_ne, bne_iff_ne, bne_eq_false_iff_eq, Bool.not_eq_true', Bool.not_eq_false', ne_eq, Classical.not_not, Bool.not_true, Bool.not_false, beqL_iff, beqL_ff, List.cons.injEq, and_true] at h) | skip) | ((conv => whnf) <;> (first | exact True.intro | apply br_rec | apply And.intro | apply CutE.goWk | apply CutE.goTh1 | apply CutE.goTh | apply EntP.k0 | apply EntP.k1 | apply EntP.k2 | apply EntP.k3 | apply EntP.k4 | apply EntP.k5 | apply EntP.k6 | apply DrawP.go | (apply AnyP.mk; kernel_rfl) | (refine AggP.go 2 rfl (by kernel_rfl) ?_) | (refine AggP.go 1 rfl (by kernel_rfl) ?_) | (refine AggP.go 3 rfl (by kernel_rfl) ?_) | (refine AggP.go 4 rfl (by kernel_rfl) ?_) | (refine AggP.go 5 rfl (by kernel_rfl) ?_) | (refine AggP.go 8 rfl (by kernel_rfl) ?_) | (refine AggP.go 11 rfl (by kernel_rfl) ?_) | apply CallP.own0 | apply CallP.own1 | apply CallP.own2 | apply CallP.own3 | apply CallP.nb | apply CutE.go0 | apply CutE.go7 | apply CutE.go6 | apply CutE.go5 | apply CutE.go4 | apply CutE.go3 | apply CutE.go2 | apply CutE.go1 | apply RoP.id | apply wrapS | (with_reducible exact lenNil) | apply Eq.refl)) | ((first | (with_reducible show rvEq _ _ _ _) | (with_reducible show svEq _ _ _ _) | (with_reducible show cellEq _ _ _ _) | (with_reducible show blkEq _ _ _)); conv => whnf))
  all_goals try simp only at *
  all_goals try (have m0 := m0 (by decide))
  all_goals try (have m1 := m1 (by decide))
  all_goals try (have m2 := m2 (by decide))
  all_goals try simp only [List.getD_cons_zero, List.getD_cons_succ] at m0 m1 m2
  all_goals first
    | exact hS.1
    | exact hS.2
    | omega
    | (exfalso; omega)
    | decide
    | (exfalso; exact Bool.noConfusion (hH.symm.trans (by assumption)))
    | (exfalso; exact hC (by assumption))
    | exact hw.symm
    | exact hw
    | rfl
    | trace_state
end Go.Eng
