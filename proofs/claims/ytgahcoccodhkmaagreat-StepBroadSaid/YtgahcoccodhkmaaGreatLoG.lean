/- A part of the walks, and of the machine that proves them (LoG). -/
import Derived.Test.YtgahcoccodhkmaaGreatLoB2
import Derived.Test.YtgahcoccodhkmaaGreatLoD
set_option linter.unusedVariables false
set_option linter.unusedSimpArgs false
namespace Go.Eng
open Go Go.Proofs
/-- What is told of a thread at an instruction. -/
def apF (t : Th) (s op a b c : Int) : Th × Int :=
  if readyF t s = 1 ∨ t.pc = 1000 then (th0, 1)
  else if readyF t s = 9 then (th0, 9)
  else if inF op 1 15 = false then (th0, 10)
  else if mayI op a b c = false then (th0, 3)
  else applyF t s op a b c
theorem readyF_or (t : Th) (s : Int) : readyF t s = 0 ∨ readyF t s = 1 ∨ readyF t s = 9 := by
  unfold readyF
  split
  · split <;> omega
  · omega
theorem mayH_eq {op a b c : Int} (h : 1 ≤ op ∧ op ≤ 15) : mayH (regsF op) (jumpF op) a b c = mayI op a b c := by
  have e : decide (jumpF op = -1) = decide (jumpF op < 0) := by
    congr 1
    apply propext
    have : jumpF op = -1 ∨ 0 ≤ jumpF op := by
      unfold jumpF
      split
      · omega
      · split <;> omega
    omega
  unfold mayH mayI
  rw [e]
def sApply : FSpec := spec (Th × Int × Int × Int × Int × Int) (fun (t, s, op, a, b, c) => [.agg (thC t), .i s, .agg [.i op, .i a, .i b, .i c]]) (fun (t, _) => SmallT t)
  fun (t, s, op, a, b, c) => .tup [rTh (apF t s op a b c).1, .c (.i (apF t s op a b c).2)]
theorem apF_A {t : Th} {s op a b c : Int} (h : readyF t s = 1 ∨ t.pc = 1000) : apF t s op a b c = (th0, 1) := by rw [apF, if_pos h]
theorem apF_B {t : Th} {s op a b c : Int} (h : ¬ (readyF t s = 1 ∨ t.pc = 1000)) (h2 : readyF t s = 9) : apF t s op a b c = (th0, 9) := by rw [apF, if_neg h, if_pos h2]
theorem apF_C {t : Th} {s op a b c : Int} (h : ¬ (readyF t s = 1 ∨ t.pc = 1000)) (h2 : ¬ readyF t s = 9) (h3 : inF op 1 15 = false) : apF t s op a b c = (th0, 10) := by rw [apF, if_neg h, if_neg h2, if_pos h3]
theorem apF_D {t : Th} {s op a b c : Int} (h : ¬ (readyF t s = 1 ∨ t.pc = 1000)) (h2 : ¬ readyF t s = 9) (h3 : ¬ inF op 1 15 = false) (h4 : mayI op a b c = false) : apF t s op a b c = (th0, 3) := by rw [apF, if_neg h, if_neg h2, if_neg h3, if_pos h4]
theorem apF_E {t : Th} {s op a b c : Int} (h : ¬ (readyF t s = 1 ∨ t.pc = 1000)) (h2 : ¬ readyF t s = 9) (h3 : ¬ inF op 1 15 = false) (h4 : ¬ mayI op a b c = false) : apF t s op a b c = applyF t s op a b c := by rw [apF, if_neg h, if_neg h2, if_neg h3, if_neg h4]
set_option maxHeartbeats 8000000 in
set_option maxRecDepth 100000 in
theorem apply_D {pc r0 r1 r2 r3 r4 r5 r6 r7 : Int} {fs : List FrT} {st fa : Int} {lf : List Int} {s op a b c : Int} (hS : SmallT ⟨pc, r0, r1, r2, r3, r4, r5, r6, r7, fs, st, fa, lf⟩) (hA : ¬ (readyF ⟨pc, r0, r1, r2, r3, r4, r5, r6, r7, fs, st, fa, lf⟩ s = 1 ∨ pc = 1000)) (hB : ¬ readyF ⟨pc, r0, r1, r2, r3, r4, r5, r6, r7, fs, st, fa, lf⟩ s = 9) (hR : readyF ⟨pc, r0, r1, r2, r3, r4, r5, r6, r7, fs, st, fa, lf⟩ s = 0)
    (hC : ¬ inF op 1 15 = false) (hop : 1 ≤ op ∧ op ≤ 15) (hD : mayI op a b c = false) : bodyF Tryz.prog (tab L6) [] Tryz.f72 sApply (⟨pc, r0, r1, r2, r3, r4, r5, r6, r7, fs, st, fa, lf⟩, s, op, a, b, c) := by
  show bodyK Tryz.prog _ _ _ _ sApply (⟨pc, r0, r1, r2, r3, r4, r5, r6, r7, fs, st, fa, lf⟩, s, op, a, b, c)
  have e1 : sApply.res (⟨pc, r0, r1, r2, r3, r4, r5, r6, r7, fs, st, fa, lf⟩, s, op, a, b, c) = .tup [rTh th0, .c (.i 3)] := by show RV.tup _ = _; rw [apF_D (t := ⟨pc, r0, r1, r2, r3, r4, r5, r6, r7, fs, st, fa, lf⟩) hA hB hC hD]
  unfold bodyK retE
  rw [e1]
  clear e1
  have hH : mayH (regsF op) (jumpF op) a b c = false := (mayH_eq hop).trans hD
  clear hD
  have hop' : op = 1 ∨ op = 2 ∨ op = 3 ∨ op = 4 ∨ op = 5 ∨ op = 6 ∨ op = 7 ∨ op = 8 ∨ op = 9 ∨ op = 10 ∨ op = 11 ∨ op = 12 ∨ op = 13 ∨ op = 14 ∨ op = 15 := by omega
  rcases hop' with rfl | rfl | rfl | rfl | rfl | rfl | rfl | rfl | rfl | rfl | rfl | rfl | rfl | rfl | rfl
  all_goals repeat' (first | exact @id (emp _ = true) | (intro h; first | exact Bool.noConfusion h | (simp only [Qn] at h) | skip) | ((conv => whnf) <;> (first | exact trivial | apply Qa | apply And.intro | apply CutE.goTh1 | apply Qb | apply Qc | apply Qd | apply Qe | apply Qf | apply Qg | apply Qh | apply Qi | exact QA | exact QP | refine QG ?_ | apply Qj | apply Qk | apply Ql | apply Qm | apply Qo | apply Qp | apply Qw | apply Qv | apply Qu | apply Qt | apply Qs | apply Qr | apply Qq | apply Qx | apply wrapS | apply Qy | (with_reducible exact lenNil) | apply Eq.refl)) | ((with_reducible first | apply Y1 | apply Y2 | apply Y3 | show blkEq _ _ _); conv => whnf))
  all_goals try simp only at *
  all_goals first
    | exact hS.1
    | exact hS.2
    | omega
    | (exfalso; omega)
    | decide
    | (exfalso; exact Bool.noConfusion (hH.symm.trans (by assumption)))
    | (exfalso; exact hC (by assumption))
    | (rw [callF_go hh h6] at h; exact h)
    | (rw [backF_go hh h6] at h; exact h)
    | assumption
    | (split <;> exact h)
    | trace_state
end Go.Eng
