/- A part of the walks, and of the machine that proves them (LoH). -/
import Derived.Test.YtgahcoccodhkmaaGreatLoG
set_option linter.unusedVariables false
set_option linter.unusedSimpArgs false
namespace Go.Eng
open Go Go.Proofs
set_option maxHeartbeats 8000000 in
set_option maxRecDepth 100000 in
theorem apply_E1 {pc r0 r1 r2 r3 r4 r5 r6 r7 : Int} {fs : List FrT} {st fa : Int} {lf : List Int} {s op a b c : Int} (hS : SmallT ⟨pc, r0, r1, r2, r3, r4, r5, r6, r7, fs, st, fa, lf⟩) (hA : ¬ (readyF ⟨pc, r0, r1, r2, r3, r4, r5, r6, r7, fs, st, fa, lf⟩ s = 1 ∨ pc = 1000)) (hB : ¬ readyF ⟨pc, r0, r1, r2, r3, r4, r5, r6, r7, fs, st, fa, lf⟩ s = 9) (hR : readyF ⟨pc, r0, r1, r2, r3, r4, r5, r6, r7, fs, st, fa, lf⟩ s = 0)
    (hC : ¬ inF op 1 15 = false) (hm : mayI op a b c = true) (hop : 1 ≤ op ∧ op ≤ 15) (hno : ¬ op = 9 ∧ ¬ op = 11 ∧ ¬ op = 12) : bodyF Tryz.prog (tab L6) [] Tryz.f72 sApply (⟨pc, r0, r1, r2, r3, r4, r5, r6, r7, fs, st, fa, lf⟩, s, op, a, b, c) := by
  show bodyK Tryz.prog _ _ _ _ sApply (⟨pc, r0, r1, r2, r3, r4, r5, r6, r7, fs, st, fa, lf⟩, s, op, a, b, c)
  have hD : ¬ mayI op a b c = false := by rw [hm]; exact Bool.noConfusion
  have e1 : sApply.res (⟨pc, r0, r1, r2, r3, r4, r5, r6, r7, fs, st, fa, lf⟩, s, op, a, b, c) = .tup [rTh (applyF ⟨pc, r0, r1, r2, r3, r4, r5, r6, r7, fs, st, fa, lf⟩ s op a b c).1, .c (.i (applyF ⟨pc, r0, r1, r2, r3, r4, r5, r6, r7, fs, st, fa, lf⟩ s op a b c).2)] := by show RV.tup _ = _; rw [apF_E (t := ⟨pc, r0, r1, r2, r3, r4, r5, r6, r7, fs, st, fa, lf⟩) hA hB hC hD]
  unfold bodyK retE
  rw [e1]
  clear e1
  have hr : thR ⟨pc, r0, r1, r2, r3, r4, r5, r6, r7, fs, st, fa, lf⟩ = true := by
    by_cases h : thR ⟨pc, r0, r1, r2, r3, r4, r5, r6, r7, fs, st, fa, lf⟩ = true
    · exact h
    · exfalso
      rw [readyF, if_neg (fun hh => h hh.1)] at hR
      omega
  have hpc : 0 ≤ pc ∧ pc ≤ 1000 := placeF_iff.1 (thR_iff.1 hr).1
  have hH : mayH (regsF op) (jumpF op) a b c = true := (mayH_eq hop).trans hm
  have hm := mayI_iff.1 hm
  have m0 := hm.1 0
  have m1 := hm.1 1
  have m2 := hm.1 2
  clear hm
  have hw : IntKind.i64.wrap (pc + 1) = pc + 1 := wrap_i64 (by omega)
  have hop' : op = 1 ∨ op = 2 ∨ op = 3 ∨ op = 4 ∨ op = 5 ∨ op = 6 ∨ op = 7 ∨ op = 8 ∨ op = 10 ∨ op = 13 ∨ op = 14 ∨ op = 15 := by omega
  rcases hop' with rfl | rfl | rfl | rfl | rfl | rfl | rfl | rfl | rfl | rfl | rfl | rfl
  all_goals repeat' (first | exact @id (emp _ = true) | (intro h; first | exact Bool.noConfusion h | (simp only [Qn] at h) | skip) | ((conv => whnf) <;> (first | exact trivial | apply Qa | apply And.intro | apply CutE.goWk | apply CutE.goTh1 | apply CutE.goTh | apply Qb | apply Qc | apply Qd | apply Qe | apply Qf | apply Qg | apply Qh | apply Qi | exact QA | exact QP | refine QG ?_ | apply Qj | apply Qk | apply Ql | apply Qm | apply Qo | apply Qp | apply Qw | apply Qv | apply Qu | apply Qt | apply Qs | apply Qr | apply Qq | apply Qx | apply wrapS | apply Qy | (with_reducible exact lenNil) | apply Eq.refl)) | ((with_reducible first | apply Y1 | apply Y2 | apply Y3 | show blkEq _ _ _); conv => whnf))
  all_goals try simp only at *
  all_goals try (have m0 := m0 (by decide))
  all_goals try (have m1 := m1 (by decide))
  all_goals try (have m2 := m2 (by decide))
  all_goals try simp only [List.getD_cons_zero, List.getD_cons_succ] at m0 m1 m2
  all_goals first
    | exact hS.1
    | exact hS.2
    | omega
    | (exfalso; omega)
    | decide
    | (exfalso; exact Bool.noConfusion (hH.symm.trans (by assumption)))
    | (exfalso; exact hC (by assumption))
    | exact hw.symm
    | exact hw
    | rfl
    | (rw [callF_go hh h6] at h; exact h)
    | (rw [backF_go hh h6] at h; exact h)
    | assumption
    | (split <;> exact h)
    | trace_state
end Go.Eng
