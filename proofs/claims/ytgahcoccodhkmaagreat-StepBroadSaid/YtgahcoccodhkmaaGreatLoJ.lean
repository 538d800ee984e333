/- A part of the walks, and of the machine that proves them (LoJ). -/
import Derived.Test.YtgahcoccodhkmaaGreatLoG
import Derived.Test.YtgahcoccodhkmaaGreatLoH
set_option linter.unusedVariables false
set_option linter.unusedSimpArgs false
namespace Go.Eng
open Go Go.Proofs
set_option maxHeartbeats 8000000 in
set_option maxRecDepth 100000 in
theorem apply_E9t {pc r0 r1 r2 r3 r4 r5 r6 r7 : Int} {fs : List FrT} {st fa : Int} {lf : List Int} {s a b c : Int} (hS : SmallT ⟨pc, r0, r1, r2, r3, r4, r5, r6, r7, fs, st, fa, lf⟩) (hA : ¬ (readyF ⟨pc, r0, r1, r2, r3, r4, r5, r6, r7, fs, st, fa, lf⟩ s = 1 ∨ pc = 1000)) (hB : ¬ readyF ⟨pc, r0, r1, r2, r3, r4, r5, r6, r7, fs, st, fa, lf⟩ s = 9) (hR : readyF ⟨pc, r0, r1, r2, r3, r4, r5, r6, r7, fs, st, fa, lf⟩ s = 0)
    (hC : ¬ inF 9 1 15 = false) (hm : mayI 9 a b c = true) (hq : getR ⟨pc, r0, r1, r2, r3, r4, r5, r6, r7, fs, st, fa, lf⟩ b < getR ⟨pc, r0, r1, r2, r3, r4, r5, r6, r7, fs, st, fa, lf⟩ c) : bodyF Tryz.prog (tab L6) [] Tryz.f72 sApply (⟨pc, r0, r1, r2, r3, r4, r5, r6, r7, fs, st, fa, lf⟩, s, 9, a, b, c) := by
  show bodyK Tryz.prog _ _ _ _ sApply (⟨pc, r0, r1, r2, r3, r4, r5, r6, r7, fs, st, fa, lf⟩, s, 9, a, b, c)
  have hD : ¬ mayI 9 a b c = false := by rw [hm]; exact Bool.noConfusion
  have e1 : sApply.res (⟨pc, r0, r1, r2, r3, r4, r5, r6, r7, fs, st, fa, lf⟩, s, 9, a, b, c) = .tup [rTh (setRg (setPc ⟨pc, r0, r1, r2, r3, r4, r5, r6, r7, fs, st, fa, lf⟩ (pc + 1)) a 1), .c (.i 0)] := by show RV.tup _ = _; rw [apF_E (t := ⟨pc, r0, r1, r2, r3, r4, r5, r6, r7, fs, st, fa, lf⟩) hA hB hC hD, ap9t (t := ⟨pc, r0, r1, r2, r3, r4, r5, r6, r7, fs, st, fa, lf⟩) hq]
  unfold bodyK retE
  rw [e1]
  clear e1
  have hr : thR ⟨pc, r0, r1, r2, r3, r4, r5, r6, r7, fs, st, fa, lf⟩ = true := by
    by_cases h : thR ⟨pc, r0, r1, r2, r3, r4, r5, r6, r7, fs, st, fa, lf⟩ = true
    · exact h
    · exfalso
      rw [readyF, if_neg (fun hh => h hh.1)] at hR
      omega
  have hpc : 0 ≤ pc ∧ pc ≤ 1000 := placeF_iff.1 (thR_iff.1 hr).1
  have hH : mayH (regsF 9) (jumpF 9) a b c = true := (mayH_eq (by decide)).trans hm
  have hm := mayI_iff.1 hm
  have m0 := hm.1 0
  have m1 := hm.1 1
  have m2 := hm.1 2
  clear hm
  have hw : IntKind.i64.wrap (pc + 1) = pc + 1 := wrap_i64 (by omega)
  repeat' (first | exact @id (emp _ = true) | (intro h; first | exact Bool.noConfusion h | (simp only [Qn] at h) | skip) | ((conv => whnf) <;> (first | exact trivial | apply Qa | apply And.intro | apply CutE.goWk | apply CutE.goTh1 | apply CutE.goTh | apply Qb | apply Qc | apply Qd | apply Qe | apply Qf | apply Qg | apply Qh | apply Qi | exact QA | exact QP | refine QG ?_ | apply Qj | apply Qk | apply Ql | apply Qm | apply Qo | apply Qp | apply Qw | apply Qv | apply Qu | apply Qt | apply Qs | apply Qr | apply Qq | apply Qx | apply wrapS | apply Qy | (with_reducible exact lenNil) | apply Eq.refl)) | ((with_reducible first | apply Y1 | apply Y2 | apply Y3 | show blkEq _ _ _); conv => whnf))
  all_goals try simp only at *
  all_goals try (have m0 := m0 (by decide))
  all_goals try (have m1 := m1 (by decide))
  all_goals try (have m2 := m2 (by decide))
  all_goals try simp only [List.getD_cons_zero, List.getD_cons_succ] at m0 m1 m2
  all_goals first
    | exact hS.1
    | exact hS.2
    | omega
    | (exfalso; omega)
    | decide
    | (exfalso; exact Bool.noConfusion (hH.symm.trans (by assumption)))
    | (exfalso; exact hC (by assumption))
    | exact hw.symm
    | (rw [if_pos (by first | exact hq | omega)]; first | rfl | exact hw.symm | exact hw | (simp only [setRg, setPc]; split <;> simp_all))
    | exact hw
    | rfl
    | (rw [callF_go hh h6] at h; exact h)
    | (rw [backF_go hh h6] at h; exact h)
    | assumption
    | (split <;> exact h)
    | trace_state
set_option maxHeartbeats 8000000 in
set_option maxRecDepth 100000 in
theorem apply_E9f {pc r0 r1 r2 r3 r4 r5 r6 r7 : Int} {fs : List FrT} {st fa : Int} {lf : List Int} {s a b c : Int} (hS : SmallT ⟨pc, r0, r1, r2, r3, r4, r5, r6, r7, fs, st, fa, lf⟩) (hA : ¬ (readyF ⟨pc, r0, r1, r2, r3, r4, r5, r6, r7, fs, st, fa, lf⟩ s = 1 ∨ pc = 1000)) (hB : ¬ readyF ⟨pc, r0, r1, r2, r3, r4, r5, r6, r7, fs, st, fa, lf⟩ s = 9) (hR : readyF ⟨pc, r0, r1, r2, r3, r4, r5, r6, r7, fs, st, fa, lf⟩ s = 0)
    (hC : ¬ inF 9 1 15 = false) (hm : mayI 9 a b c = true) (hq : ¬ getR ⟨pc, r0, r1, r2, r3, r4, r5, r6, r7, fs, st, fa, lf⟩ b < getR ⟨pc, r0, r1, r2, r3, r4, r5, r6, r7, fs, st, fa, lf⟩ c) : bodyF Tryz.prog (tab L6) [] Tryz.f72 sApply (⟨pc, r0, r1, r2, r3, r4, r5, r6, r7, fs, st, fa, lf⟩, s, 9, a, b, c) := by
  show bodyK Tryz.prog _ _ _ _ sApply (⟨pc, r0, r1, r2, r3, r4, r5, r6, r7, fs, st, fa, lf⟩, s, 9, a, b, c)
  have hD : ¬ mayI 9 a b c = false := by rw [hm]; exact Bool.noConfusion
  have e1 : sApply.res (⟨pc, r0, r1, r2, r3, r4, r5, r6, r7, fs, st, fa, lf⟩, s, 9, a, b, c) = .tup [rTh (setRg (setPc ⟨pc, r0, r1, r2, r3, r4, r5, r6, r7, fs, st, fa, lf⟩ (pc + 1)) a 0), .c (.i 0)] := by show RV.tup _ = _; rw [apF_E (t := ⟨pc, r0, r1, r2, r3, r4, r5, r6, r7, fs, st, fa, lf⟩) hA hB hC hD, ap9f (t := ⟨pc, r0, r1, r2, r3, r4, r5, r6, r7, fs, st, fa, lf⟩) hq]
  unfold bodyK retE
  rw [e1]
  clear e1
  have hr : thR ⟨pc, r0, r1, r2, r3, r4, r5, r6, r7, fs, st, fa, lf⟩ = true := by
    by_cases h : thR ⟨pc, r0, r1, r2, r3, r4, r5, r6, r7, fs, st, fa, lf⟩ = true
    · exact h
    · exfalso
      rw [readyF, if_neg (fun hh => h hh.1)] at hR
      omega
  have hpc : 0 ≤ pc ∧ pc ≤ 1000 := placeF_iff.1 (thR_iff.1 hr).1
  have hH : mayH (regsF 9) (jumpF 9) a b c = true := (mayH_eq (by decide)).trans hm
  have hm := mayI_iff.1 hm
  have m0 := hm.1 0
  have m1 := hm.1 1
  have m2 := hm.1 2
  clear hm
  have hw : IntKind.i64.wrap (pc + 1) = pc + 1 := wrap_i64 (by omega)
  repeat' (first | exact @id (emp _ = true) | (intro h; first | exact Bool.noConfusion h | (simp only [Qn] at h) | skip) | ((conv => whnf) <;> (first | exact trivial | apply Qa | apply And.intro | apply CutE.goWk | apply CutE.goTh1 | apply CutE.goTh | apply Qb | apply Qc | apply Qd | apply Qe | apply Qf | apply Qg | apply Qh | apply Qi | exact QA | exact QP | refine QG ?_ | apply Qj | apply Qk | apply Ql | apply Qm | apply Qo | apply Qp | apply Qw | apply Qv | apply Qu | apply Qt | apply Qs | apply Qr | apply Qq | apply Qx | apply wrapS | apply Qy | (with_reducible exact lenNil) | apply Eq.refl)) | ((with_reducible first | apply Y1 | apply Y2 | apply Y3 | show blkEq _ _ _); conv => whnf))
  all_goals try simp only at *
  all_goals try (have m0 := m0 (by decide))
  all_goals try (have m1 := m1 (by decide))
  all_goals try (have m2 := m2 (by decide))
  all_goals try simp only [List.getD_cons_zero, List.getD_cons_succ] at m0 m1 m2
  all_goals first
    | exact hS.1
    | exact hS.2
    | omega
    | (exfalso; omega)
    | decide
    | (exfalso; exact Bool.noConfusion (hH.symm.trans (by assumption)))
    | (exfalso; exact hC (by assumption))
    | exact hw.symm
    | (rw [if_neg (by first | exact hq | omega)]; first | rfl | exact hw.symm | exact hw | (simp only [setRg, setPc]; split <;> simp_all))
    | exact hw
    | rfl
    | (rw [callF_go hh h6] at h; exact h)
    | (rw [backF_go hh h6] at h; exact h)
    | assumption
    | (split <;> exact h)
    | trace_state
set_option maxHeartbeats 8000000 in
set_option maxRecDepth 100000 in
theorem apply_E11t {pc r0 r1 r2 r3 r4 r5 r6 r7 : Int} {fs : List FrT} {st fa : Int} {lf : List Int} {s a b c : Int} (hS : SmallT ⟨pc, r0, r1, r2, r3, r4, r5, r6, r7, fs, st, fa, lf⟩) (hA : ¬ (readyF ⟨pc, r0, r1, r2, r3, r4, r5, r6, r7, fs, st, fa, lf⟩ s = 1 ∨ pc = 1000)) (hB : ¬ readyF ⟨pc, r0, r1, r2, r3, r4, r5, r6, r7, fs, st, fa, lf⟩ s = 9) (hR : readyF ⟨pc, r0, r1, r2, r3, r4, r5, r6, r7, fs, st, fa, lf⟩ s = 0)
    (hC : ¬ inF 11 1 15 = false) (hm : mayI 11 a b c = true) (hq : getR ⟨pc, r0, r1, r2, r3, r4, r5, r6, r7, fs, st, fa, lf⟩ a = 0) : bodyF Tryz.prog (tab L6) [] Tryz.f72 sApply (⟨pc, r0, r1, r2, r3, r4, r5, r6, r7, fs, st, fa, lf⟩, s, 11, a, b, c) := by
  show bodyK Tryz.prog _ _ _ _ sApply (⟨pc, r0, r1, r2, r3, r4, r5, r6, r7, fs, st, fa, lf⟩, s, 11, a, b, c)
  have hD : ¬ mayI 11 a b c = false := by rw [hm]; exact Bool.noConfusion
  have e1 : sApply.res (⟨pc, r0, r1, r2, r3, r4, r5, r6, r7, fs, st, fa, lf⟩, s, 11, a, b, c) = .tup [rTh (setPc ⟨pc, r0, r1, r2, r3, r4, r5, r6, r7, fs, st, fa, lf⟩ b), .c (.i 0)] := by show RV.tup _ = _; rw [apF_E (t := ⟨pc, r0, r1, r2, r3, r4, r5, r6, r7, fs, st, fa, lf⟩) hA hB hC hD, ap11t (t := ⟨pc, r0, r1, r2, r3, r4, r5, r6, r7, fs, st, fa, lf⟩) hq]
  unfold bodyK retE
  rw [e1]
  clear e1
  have hr : thR ⟨pc, r0, r1, r2, r3, r4, r5, r6, r7, fs, st, fa, lf⟩ = true := by
    by_cases h : thR ⟨pc, r0, r1, r2, r3, r4, r5, r6, r7, fs, st, fa, lf⟩ = true
    · exact h
    · exfalso
      rw [readyF, if_neg (fun hh => h hh.1)] at hR
      omega
  have hpc : 0 ≤ pc ∧ pc ≤ 1000 := placeF_iff.1 (thR_iff.1 hr).1
  have hH : mayH (regsF 11) (jumpF 11) a b c = true := (mayH_eq (by decide)).trans hm
  have hm := mayI_iff.1 hm
  have m0 := hm.1 0
  have m1 := hm.1 1
  have m2 := hm.1 2
  clear hm
  have hw : IntKind.i64.wrap (pc + 1) = pc + 1 := wrap_i64 (by omega)
  repeat' (first | exact @id (emp _ = true) | (intro h; first | exact Bool.noConfusion h | (simp only [Qn] at h) | skip) | ((conv => whnf) <;> (first | exact trivial | apply Qa | apply And.intro | apply CutE.goWk | apply CutE.goTh1 | apply CutE.goTh | apply Qb | apply Qc | apply Qd | apply Qe | apply Qf | apply Qg | apply Qh | apply Qi | exact QA | exact QP | refine QG ?_ | apply Qj | apply Qk | apply Ql | apply Qm | apply Qo | apply Qp | apply Qw | apply Qv | apply Qu | apply Qt | apply Qs | apply Qr | apply Qq | apply Qx | apply wrapS | apply Qy | (with_reducible exact lenNil) | apply Eq.refl)) | ((with_reducible first | apply Y1 | apply Y2 | apply Y3 | show blkEq _ _ _); conv => whnf))
  all_goals try simp only at *
  all_goals try (have m0 := m0 (by decide))
  all_goals try (have m1 := m1 (by decide))
  all_goals try (have m2 := m2 (by decide))
  all_goals try simp only [List.getD_cons_zero, List.getD_cons_succ] at m0 m1 m2
  all_goals first
    | exact hS.1
    | exact hS.2
    | omega
    | (exfalso; omega)
    | decide
    | (exfalso; exact Bool.noConfusion (hH.symm.trans (by assumption)))
    | (exfalso; exact hC (by assumption))
    | exact hw.symm
    | (rw [if_pos (by first | exact hq | omega)]; first | rfl | exact hw.symm | exact hw | (simp only [setRg, setPc]; split <;> simp_all))
    | exact hw
    | rfl
    | (rw [callF_go hh h6] at h; exact h)
    | (rw [backF_go hh h6] at h; exact h)
    | assumption
    | (split <;> exact h)
    | trace_state
set_option maxHeartbeats 8000000 in
set_option maxRecDepth 100000 in
theorem apply_E11f {pc r0 r1 r2 r3 r4 r5 r6 r7 : Int} {fs : List FrT} {st fa : Int} {lf : List Int} {s a b c : Int} (hS : SmallT ⟨pc, r0, r1, r2, r3, r4, r5, r6, r7, fs, st, fa, lf⟩) (hA : ¬ (readyF ⟨pc, r0, r1, r2, r3, r4, r5, r6, r7, fs, st, fa, lf⟩ s = 1 ∨ pc = 1000)) (hB : ¬ readyF ⟨pc, r0, r1, r2, r3, r4, r5, r6, r7, fs, st, fa, lf⟩ s = 9) (hR : readyF ⟨pc, r0, r1, r2, r3, r4, r5, r6, r7, fs, st, fa, lf⟩ s = 0)
    (hC : ¬ inF 11 1 15 = false) (hm : mayI 11 a b c = true) (hq : ¬ getR ⟨pc, r0, r1, r2, r3, r4, r5, r6, r7, fs, st, fa, lf⟩ a = 0) : bodyF Tryz.prog (tab L6) [] Tryz.f72 sApply (⟨pc, r0, r1, r2, r3, r4, r5, r6, r7, fs, st, fa, lf⟩, s, 11, a, b, c) := by
  show bodyK Tryz.prog _ _ _ _ sApply (⟨pc, r0, r1, r2, r3, r4, r5, r6, r7, fs, st, fa, lf⟩, s, 11, a, b, c)
  have hD : ¬ mayI 11 a b c = false := by rw [hm]; exact Bool.noConfusion
  have e1 : sApply.res (⟨pc, r0, r1, r2, r3, r4, r5, r6, r7, fs, st, fa, lf⟩, s, 11, a, b, c) = .tup [rTh (setPc ⟨pc, r0, r1, r2, r3, r4, r5, r6, r7, fs, st, fa, lf⟩ (pc + 1)), .c (.i 0)] := by show RV.tup _ = _; rw [apF_E (t := ⟨pc, r0, r1, r2, r3, r4, r5, r6, r7, fs, st, fa, lf⟩) hA hB hC hD, ap11f (t := ⟨pc, r0, r1, r2, r3, r4, r5, r6, r7, fs, st, fa, lf⟩) hq]
  unfold bodyK retE
  rw [e1]
  clear e1
  have hr : thR ⟨pc, r0, r1, r2, r3, r4, r5, r6, r7, fs, st, fa, lf⟩ = true := by
    by_cases h : thR ⟨pc, r0, r1, r2, r3, r4, r5, r6, r7, fs, st, fa, lf⟩ = true
    · exact h
    · exfalso
      rw [readyF, if_neg (fun hh => h hh.1)] at hR
      omega
  have hpc : 0 ≤ pc ∧ pc ≤ 1000 := placeF_iff.1 (thR_iff.1 hr).1
  have hH : mayH (regsF 11) (jumpF 11) a b c = true := (mayH_eq (by decide)).trans hm
  have hm := mayI_iff.1 hm
  have m0 := hm.1 0
  have m1 := hm.1 1
  have m2 := hm.1 2
  clear hm
  have hw : IntKind.i64.wrap (pc + 1) = pc + 1 := wrap_i64 (by omega)
  repeat' (first | exact @id (emp _ = true) | (intro h; first | exact Bool.noConfusion h | (simp only [Qn] at h) | skip) | ((conv => whnf) <;> (first | exact trivial | apply Qa | apply And.intro | apply CutE.goWk | apply CutE.goTh1 | apply CutE.goTh | apply Qb | apply Qc | apply Qd | apply Qe | apply Qf | apply Qg | apply Qh | apply Qi | exact QA | exact QP | refine QG ?_ | apply Qj | apply Qk | apply Ql | apply Qm | apply Qo | apply Qp | apply Qw | apply Qv | apply Qu | apply Qt | apply Qs | apply Qr | apply Qq | apply Qx | apply wrapS | apply Qy | (with_reducible exact lenNil) | apply Eq.refl)) | ((with_reducible first | apply Y1 | apply Y2 | apply Y3 | show blkEq _ _ _); conv => whnf))
  all_goals try simp only at *
  all_goals try (have m0 := m0 (by decide))
  all_goals try (have m1 := m1 (by decide))
  all_goals try (have m2 := m2 (by decide))
  all_goals try simp only [List.getD_cons_zero, List.getD_cons_succ] at m0 m1 m2
  all_goals first
    | exact hS.1
    | exact hS.2
    | omega
    | (exfalso; omega)
    | decide
    | (exfalso; exact Bool.noConfusion (hH.symm.trans (by assumption)))
    | (exfalso; exact hC (by assumption))
    | exact hw.symm
    | (rw [if_neg (by first | exact hq | omega)]; first | rfl | exact hw.symm | exact hw | (simp only [setRg, setPc]; split <;> simp_all))
    | exact hw
    | rfl
    | (rw [callF_go hh h6] at h; exact h)
    | (rw [backF_go hh h6] at h; exact h)
    | assumption
    | (split <;> exact h)
    | trace_state
set_option maxHeartbeats 8000000 in
set_option maxRecDepth 100000 in
theorem apply_E12t {pc r0 r1 r2 r3 r4 r5 r6 r7 : Int} {fs : List FrT} {st fa : Int} {lf : List Int} {s a b c : Int} (hS : SmallT ⟨pc, r0, r1, r2, r3, r4, r5, r6, r7, fs, st, fa, lf⟩) (hA : ¬ (readyF ⟨pc, r0, r1, r2, r3, r4, r5, r6, r7, fs, st, fa, lf⟩ s = 1 ∨ pc = 1000)) (hB : ¬ readyF ⟨pc, r0, r1, r2, r3, r4, r5, r6, r7, fs, st, fa, lf⟩ s = 9) (hR : readyF ⟨pc, r0, r1, r2, r3, r4, r5, r6, r7, fs, st, fa, lf⟩ s = 0)
    (hC : ¬ inF 12 1 15 = false) (hm : mayI 12 a b c = true) (hq : getR ⟨pc, r0, r1, r2, r3, r4, r5, r6, r7, fs, st, fa, lf⟩ a = 0) : bodyF Tryz.prog (tab L6) [] Tryz.f72 sApply (⟨pc, r0, r1, r2, r3, r4, r5, r6, r7, fs, st, fa, lf⟩, s, 12, a, b, c) := by
  show bodyK Tryz.prog _ _ _ _ sApply (⟨pc, r0, r1, r2, r3, r4, r5, r6, r7, fs, st, fa, lf⟩, s, 12, a, b, c)
  have hD : ¬ mayI 12 a b c = false := by rw [hm]; exact Bool.noConfusion
  have e1 : sApply.res (⟨pc, r0, r1, r2, r3, r4, r5, r6, r7, fs, st, fa, lf⟩, s, 12, a, b, c) = .tup [rTh (setPc ⟨pc, r0, r1, r2, r3, r4, r5, r6, r7, fs, st, fa, lf⟩ (pc + 1)), .c (.i 0)] := by show RV.tup _ = _; rw [apF_E (t := ⟨pc, r0, r1, r2, r3, r4, r5, r6, r7, fs, st, fa, lf⟩) hA hB hC hD, ap12t (t := ⟨pc, r0, r1, r2, r3, r4, r5, r6, r7, fs, st, fa, lf⟩) hq]
  unfold bodyK retE
  rw [e1]
  clear e1
  have hr : thR ⟨pc, r0, r1, r2, r3, r4, r5, r6, r7, fs, st, fa, lf⟩ = true := by
    by_cases h : thR ⟨pc, r0, r1, r2, r3, r4, r5, r6, r7, fs, st, fa, lf⟩ = true
    · exact h
    · exfalso
      rw [readyF, if_neg (fun hh => h hh.1)] at hR
      omega
  have hpc : 0 ≤ pc ∧ pc ≤ 1000 := placeF_iff.1 (thR_iff.1 hr).1
  have hH : mayH (regsF 12) (jumpF 12) a b c = true := (mayH_eq (by decide)).trans hm
  have hm := mayI_iff.1 hm
  have m0 := hm.1 0
  have m1 := hm.1 1
  have m2 := hm.1 2
  clear hm
  have hw : IntKind.i64.wrap (pc + 1) = pc + 1 := wrap_i64 (by omega)
  repeat' (first | exact @id (emp _ = true) | (intro h; first | exact Bool.noConfusion h | (simp only [Qn] at h) | skip) | ((conv => whnf) <;> (first | exact trivial | apply Qa | apply And.intro | apply CutE.goWk | apply CutE.goTh1 | apply CutE.goTh | apply Qb | apply Qc | apply Qd | apply Qe | apply Qf | apply Qg | apply Qh | apply Qi | exact QA | exact QP | refine QG ?_ | apply Qj | apply Qk | apply Ql | apply Qm | apply Qo | apply Qp | apply Qw | apply Qv | apply Qu | apply Qt | apply Qs | apply Qr | apply Qq | apply Qx | apply wrapS | apply Qy | (with_reducible exact lenNil) | apply Eq.refl)) | ((with_reducible first | apply Y1 | apply Y2 | apply Y3 | show blkEq _ _ _); conv => whnf))
  all_goals try simp only at *
  all_goals try (have m0 := m0 (by decide))
  all_goals try (have m1 := m1 (by decide))
  all_goals try (have m2 := m2 (by decide))
  all_goals try simp only [List.getD_cons_zero, List.getD_cons_succ] at m0 m1 m2
  all_goals first
    | exact hS.1
    | exact hS.2
    | omega
    | (exfalso; omega)
    | decide
    | (exfalso; exact Bool.noConfusion (hH.symm.trans (by assumption)))
    | (exfalso; exact hC (by assumption))
    | exact hw.symm
    | (rw [if_pos (by first | exact hq | omega)]; first | rfl | exact hw.symm | exact hw | (simp only [setRg, setPc]; split <;> simp_all))
    | exact hw
    | rfl
    | (rw [callF_go hh h6] at h; exact h)
    | (rw [backF_go hh h6] at h; exact h)
    | assumption
    | (split <;> exact h)
    | trace_state
set_option maxHeartbeats 8000000 in
set_option maxRecDepth 100000 in
theorem apply_E12f {pc r0 r1 r2 r3 r4 r5 r6 r7 : Int} {fs : List FrT} {st fa : Int} {lf : List Int} {s a b c : Int} (hS : SmallT ⟨pc, r0, r1, r2, r3, r4, r5, r6, r7, fs, st, fa, lf⟩) (hA : ¬ (readyF ⟨pc, r0, r1, r2, r3, r4, r5, r6, r7, fs, st, fa, lf⟩ s = 1 ∨ pc = 1000)) (hB : ¬ readyF ⟨pc, r0, r1, r2, r3, r4, r5, r6, r7, fs, st, fa, lf⟩ s = 9) (hR : readyF ⟨pc, r0, r1, r2, r3, r4, r5, r6, r7, fs, st, fa, lf⟩ s = 0)
    (hC : ¬ inF 12 1 15 = false) (hm : mayI 12 a b c = true) (hq : ¬ getR ⟨pc, r0, r1, r2, r3, r4, r5, r6, r7, fs, st, fa, lf⟩ a = 0) : bodyF Tryz.prog (tab L6) [] Tryz.f72 sApply (⟨pc, r0, r1, r2, r3, r4, r5, r6, r7, fs, st, fa, lf⟩, s, 12, a, b, c) := by
  show bodyK Tryz.prog _ _ _ _ sApply (⟨pc, r0, r1, r2, r3, r4, r5, r6, r7, fs, st, fa, lf⟩, s, 12, a, b, c)
  have hD : ¬ mayI 12 a b c = false := by rw [hm]; exact Bool.noConfusion
  have e1 : sApply.res (⟨pc, r0, r1, r2, r3, r4, r5, r6, r7, fs, st, fa, lf⟩, s, 12, a, b, c) = .tup [rTh (setPc ⟨pc, r0, r1, r2, r3, r4, r5, r6, r7, fs, st, fa, lf⟩ b), .c (.i 0)] := by show RV.tup _ = _; rw [apF_E (t := ⟨pc, r0, r1, r2, r3, r4, r5, r6, r7, fs, st, fa, lf⟩) hA hB hC hD, ap12f (t := ⟨pc, r0, r1, r2, r3, r4, r5, r6, r7, fs, st, fa, lf⟩) hq]
  unfold bodyK retE
  rw [e1]
  clear e1
  have hr : thR ⟨pc, r0, r1, r2, r3, r4, r5, r6, r7, fs, st, fa, lf⟩ = true := by
    by_cases h : thR ⟨pc, r0, r1, r2, r3, r4, r5, r6, r7, fs, st, fa, lf⟩ = true
    · exact h
    · exfalso
      rw [readyF, if_neg (fun hh => h hh.1)] at hR
      omega
  have hpc : 0 ≤ pc ∧ pc ≤ 1000 := placeF_iff.1 (thR_iff.1 hr).1
  have hH : mayH (regsF 12) (jumpF 12) a b c = true := (mayH_eq (by decide)).trans hm
  have hm := mayI_iff.1 hm
  have m0 := hm.1 0
  have m1 := hm.1 1
  have m2 := hm.1 2
  clear hm
  have hw : IntKind.i64.wrap (pc + 1) = pc + 1 := wrap_i64 (by omega)
  repeat' (first | exact @id (emp _ = true) | (intro h; first | exact Bool.noConfusion h | (simp only [Qn] at h) | skip) | ((conv => whnf) <;> (first | exact trivial | apply Qa | apply And.intro | apply CutE.goWk | apply CutE.goTh1 | apply CutE.goTh | apply Qb | apply Qc | apply Qd | apply Qe | apply Qf | apply Qg | apply Qh | apply Qi | exact QA | exact QP | refine QG ?_ | apply Qj | apply Qk | apply Ql | apply Qm | apply Qo | apply Qp | apply Qw | apply Qv | apply Qu | apply Qt | apply Qs | apply Qr | apply Qq | apply Qx | apply wrapS | apply Qy | (with_reducible exact lenNil) | apply Eq.refl)) | ((with_reducible first | apply Y1 | apply Y2 | apply Y3 | show blkEq _ _ _); conv => whnf))
  all_goals try simp only at *
  all_goals try (have m0 := m0 (by decide))
  all_goals try (have m1 := m1 (by decide))
  all_goals try (have m2 := m2 (by decide))
  all_goals try simp only [List.getD_cons_zero, List.getD_cons_succ] at m0 m1 m2
  all_goals first
    | exact hS.1
    | exact hS.2
    | omega
    | (exfalso; omega)
    | decide
    | (exfalso; exact Bool.noConfusion (hH.symm.trans (by assumption)))
    | (exfalso; exact hC (by assumption))
    | exact hw.symm
    | (rw [if_neg (by first | exact hq | omega)]; first | rfl | exact hw.symm | exact hw | (simp only [setRg, setPc]; split <;> simp_all))
    | exact hw
    | rfl
    | (rw [callF_go hh h6] at h; exact h)
    | (rw [backF_go hh h6] at h; exact h)
    | assumption
    | (split <;> exact h)
    | trace_state
end Go.Eng
namespace Go.Eng
open Go Go.Proofs
set_option maxHeartbeats 8000000 in
set_option maxRecDepth 100000 in
theorem apply_ok : Meets Tryz.prog 72 sApply := by
  refine meets_plain L6_ok rfl [] (fn := Tryz.f72) rfl rfl rfl (by decide) fun ⟨⟨pc, r0, r1, r2, r3, r4, r5, r6, r7, fs, st, fa, lf⟩, s, op, a, b, c⟩ hS => ?_
  have hS : SmallT ⟨pc, r0, r1, r2, r3, r4, r5, r6, r7, fs, st, fa, lf⟩ := hS
  by_cases hA : readyF ⟨pc, r0, r1, r2, r3, r4, r5, r6, r7, fs, st, fa, lf⟩ s = 1 ∨ pc = 1000
  · show bodyK Tryz.prog _ _ _ _ sApply (⟨pc, r0, r1, r2, r3, r4, r5, r6, r7, fs, st, fa, lf⟩, s, op, a, b, c)
    have e1 : sApply.res (⟨pc, r0, r1, r2, r3, r4, r5, r6, r7, fs, st, fa, lf⟩, s, op, a, b, c) = .tup [rTh th0, .c (.i 1)] := by show RV.tup _ = _; rw [apF_A (t := ⟨pc, r0, r1, r2, r3, r4, r5, r6, r7, fs, st, fa, lf⟩) hA]
    unfold bodyK retE
    rw [e1]
    clear e1
    repeat' (first | exact @id (emp _ = true) | (intro h; first | exact Bool.noConfusion h | (simp only [Qn] at h) | skip) | ((conv => whnf) <;> (first | exact trivial | apply Qa | apply And.intro | apply CutE.goTh1 | apply Qb | apply Qc | apply Qd | apply Qe | apply Qf | apply Qg | apply Qh | apply Qi | exact QA | exact QP | refine QG ?_ | apply Qj | apply Qk | apply Ql | apply Qm | apply Qo | apply Qp | apply Qw | apply Qv | apply Qu | apply Qt | apply Qs | apply Qr | apply Qq | apply Qx | apply wrapS | apply Qy | (with_reducible exact lenNil) | apply Eq.refl)) | ((with_reducible first | apply Y1 | apply Y2 | apply Y3 | show blkEq _ _ _); conv => whnf))
    all_goals try simp only at *
    all_goals first
      | exact hS.1
      | exact hS.2
      | omega
      | (exfalso; omega)
      | (rw [callF_go hh h6] at h; exact h)
      | (rw [backF_go hh h6] at h; exact h)
      | assumption
      | (split <;> exact h)
      | trace_state
  by_cases hB : readyF ⟨pc, r0, r1, r2, r3, r4, r5, r6, r7, fs, st, fa, lf⟩ s = 9
  · show bodyK Tryz.prog _ _ _ _ sApply (⟨pc, r0, r1, r2, r3, r4, r5, r6, r7, fs, st, fa, lf⟩, s, op, a, b, c)
    have e1 : sApply.res (⟨pc, r0, r1, r2, r3, r4, r5, r6, r7, fs, st, fa, lf⟩, s, op, a, b, c) = .tup [rTh th0, .c (.i 9)] := by show RV.tup _ = _; rw [apF_B (t := ⟨pc, r0, r1, r2, r3, r4, r5, r6, r7, fs, st, fa, lf⟩) hA hB]
    unfold bodyK retE
    rw [e1]
    clear e1
    repeat' (first | exact @id (emp _ = true) | (intro h; first | exact Bool.noConfusion h | (simp only [Qn] at h) | skip) | ((conv => whnf) <;> (first | exact trivial | apply Qa | apply And.intro | apply CutE.goTh1 | apply Qb | apply Qc | apply Qd | apply Qe | apply Qf | apply Qg | apply Qh | apply Qi | exact QA | exact QP | refine QG ?_ | apply Qj | apply Qk | apply Ql | apply Qm | apply Qo | apply Qp | apply Qw | apply Qv | apply Qu | apply Qt | apply Qs | apply Qr | apply Qq | apply Qx | apply wrapS | apply Qy | (with_reducible exact lenNil) | apply Eq.refl)) | ((with_reducible first | apply Y1 | apply Y2 | apply Y3 | show blkEq _ _ _); conv => whnf))
    all_goals try simp only at *
    all_goals first
      | exact hS.1
      | exact hS.2
      | omega
      | exact hB.symm
      | (exfalso; omega)
      | (rw [callF_go hh h6] at h; exact h)
      | (rw [backF_go hh h6] at h; exact h)
      | assumption
      | (split <;> exact h)
      | trace_state
  have hR : readyF ⟨pc, r0, r1, r2, r3, r4, r5, r6, r7, fs, st, fa, lf⟩ s = 0 := by rcases readyF_or ⟨pc, r0, r1, r2, r3, r4, r5, r6, r7, fs, st, fa, lf⟩ s with h | h | h <;> first | exact h | exact absurd (Or.inl h) hA | exact absurd h hB
  by_cases hC : inF op 1 15 = false
  · show bodyK Tryz.prog _ _ _ _ sApply (⟨pc, r0, r1, r2, r3, r4, r5, r6, r7, fs, st, fa, lf⟩, s, op, a, b, c)
    have e1 : sApply.res (⟨pc, r0, r1, r2, r3, r4, r5, r6, r7, fs, st, fa, lf⟩, s, op, a, b, c) = .tup [rTh th0, .c (.i 10)] := by show RV.tup _ = _; rw [apF_C (t := ⟨pc, r0, r1, r2, r3, r4, r5, r6, r7, fs, st, fa, lf⟩) hA hB hC]
    unfold bodyK retE
    rw [e1]
    clear e1
    repeat' (first | exact @id (emp _ = true) | (intro h; first | exact Bool.noConfusion h | (simp only [Qn] at h) | skip) | ((conv => whnf) <;> (first | exact trivial | apply Qa | apply And.intro | apply CutE.goTh1 | apply Qb | apply Qc | apply Qd | apply Qe | apply Qf | apply Qg | apply Qh | apply Qi | exact QA | exact QP | refine QG ?_ | apply Qj | apply Qk | apply Ql | apply Qm | apply Qo | apply Qp | apply Qw | apply Qv | apply Qu | apply Qt | apply Qs | apply Qr | apply Qq | apply Qx | apply wrapS | apply Qy | (with_reducible exact lenNil) | apply Eq.refl)) | ((with_reducible first | apply Y1 | apply Y2 | apply Y3 | show blkEq _ _ _); conv => whnf))
    all_goals try simp only at *
    all_goals first
      | exact hS.1
      | exact hS.2
      | omega
      | (exfalso; omega)
      | (exfalso; exact Bool.noConfusion (hC.symm.trans h))
      | (rw [callF_go hh h6] at h; exact h)
      | (rw [backF_go hh h6] at h; exact h)
      | assumption
      | (split <;> exact h)
      | trace_state
  have hop : 1 ≤ op ∧ op ≤ 15 := by
    by_cases h : 1 ≤ op ∧ op ≤ 15
    · exact h
    · exact absurd (inF_f h) hC
  by_cases hD : mayI op a b c = false
  · exact apply_D hS hA hB hR hC hop hD
  have hm : mayI op a b c = true := by
    cases h : mayI op a b c with
    | true => rfl
    | false => exact absurd h hD
  by_cases h9 : op = 9
  · subst h9
    by_cases hq : getR ⟨pc, r0, r1, r2, r3, r4, r5, r6, r7, fs, st, fa, lf⟩ b < getR ⟨pc, r0, r1, r2, r3, r4, r5, r6, r7, fs, st, fa, lf⟩ c
    · exact apply_E9t hS hA hB hR hC hm hq
    · exact apply_E9f hS hA hB hR hC hm hq
  by_cases h11 : op = 11
  · subst h11
    by_cases hq : getR ⟨pc, r0, r1, r2, r3, r4, r5, r6, r7, fs, st, fa, lf⟩ a = 0
    · exact apply_E11t hS hA hB hR hC hm hq
    · exact apply_E11f hS hA hB hR hC hm hq
  by_cases h12 : op = 12
  · subst h12
    by_cases hq : getR ⟨pc, r0, r1, r2, r3, r4, r5, r6, r7, fs, st, fa, lf⟩ a = 0
    · exact apply_E12t hS hA hB hR hC hm hq
    · exact apply_E12f hS hA hB hR hC hm hq
  exact apply_E1 hS hA hB hR hC hm hop ⟨h9, h11, h12⟩
end Go.Eng
namespace Go.Eng
open Go Go.Proofs
theorem readyF_iff {t : Th} {s : Int} : readyF t s = 0 ↔ thR t = true ∧ inF s 0 7 = true ∧ t.st = 0 ∧ t.lf.length = 0 := by
  unfold readyF
  constructor
  · intro h
    split at h
    · rename_i h1
      split at h
      · rename_i h2; exact ⟨h1.1, h1.2, h2.1, h2.2⟩
      · omega
    · omega
  · rintro ⟨h1, h2, h3, h4⟩
    rw [if_pos ⟨h1, h2⟩, if_pos ⟨h3, h4⟩]
theorem thR_of {t u : Th} (h : thR t = true) (hp : placeF u.pc = true) (e1 : u.fs = t.fs) (e2 : u.lf = t.lf) (e3 : u.st = t.st) (e4 : u.fa = t.fa) : thR u = true := by
  obtain ⟨a, b, c, d, e, f⟩ := thR_iff.1 h
  exact thR_iff.2 ⟨hp, by rw [e1]; exact b, by rw [e2]; exact c, by rw [e1]; exact d, by rw [e2]; exact e, by rw [e3, e4]; exact f⟩
theorem mem_any {l : List FrT} (h : l.any badFr = false) {x : FrT} (hx : x ∈ l) : placeF x.back = true := by
  have := List.any_eq_false.1 h x hx
  simpa [badFr] using this
/-- A call keeps what may be. -/
theorem call_keeps {t x : Th} {to : Int} (h : callF t to = (x, 0)) : thR x = true ∧ x.st = t.st ∧ x.fa = t.fa ∧ x.lf = t.lf := by
  by_cases hh : thR t = true ∧ ¬ t.pc = 1000 ∧ placeF to = true
  · by_cases h6 : t.fs.length = 6
    · rw [callF_deep hh h6] at h; simp at h
    · rw [callF_go hh h6] at h
      obtain ⟨rfl, _⟩ := Prod.mk.inj h
      obtain ⟨a, b, c, d, e, f⟩ := thR_iff.1 hh.1
      have hp := placeF_iff.1 a
      refine ⟨thR_iff.2 ⟨hh.2.2, ?_, c, ?_, e, f⟩, rfl, rfl, rfl⟩
      · show (t.fs ++ [_]).length ≤ 6
        rw [List.length_append]; simp only [List.length_cons, List.length_nil]; omega
      · show (t.fs ++ [_]).any badFr = false
        rw [List.any_append, d]
        have : placeF (t.pc + 1) = true := placeF_iff.2 (by omega)
        simp [badFr, this]
  · rw [callF_no hh] at h; simp at h
theorem back_keeps {t x : Th} (h : backF t = (x, 0)) : thR x = true ∧ x.st = t.st ∧ x.fa = t.fa ∧ x.lf = t.lf := by
  by_cases hh : thR t = true
  · by_cases h6 : t.fs.length = 0
    · rw [backF_none hh h6] at h; simp at h
    · rw [backF_go hh h6] at h
      obtain ⟨rfl, _⟩ := Prod.mk.inj h
      obtain ⟨a, b, c, d, e, f⟩ := thR_iff.1 hh
      have hmem : t.fs.getD (t.fs.length - 1) default ∈ t.fs := by
        rw [List.getD_eq_getElem?_getD, List.getElem?_eq_getElem (by omega)]
        exact List.getElem_mem _
      refine ⟨thR_iff.2 ⟨mem_any d hmem, ?_, c, ?_, e, f⟩, rfl, rfl, rfl⟩
      · show (t.fs.take _).length ≤ 6
        rw [List.length_take]; omega
      · show (t.fs.take _).any badFr = false
        rw [List.any_eq_false] at d ⊢
        exact fun y hy => d y (List.mem_of_mem_take hy)
  · rw [backF_no hh] at h; simp at h
theorem opF_rest (t : Th) (s op a b c : Int) : (opF t s op a b c).fs = t.fs ∧ (opF t s op a b c).lf = t.lf ∧ (opF t s op a b c).st = t.st ∧ (opF t s op a b c).fa = t.fa := by
  have key : ∀ (p : Prop) [Decidable p] (x y : Th), (x.fs = t.fs ∧ x.lf = t.lf ∧ x.st = t.st ∧ x.fa = t.fa) → (y.fs = t.fs ∧ y.lf = t.lf ∧ y.st = t.st ∧ y.fa = t.fa) →
      ((if p then x else y).fs = t.fs ∧ (if p then x else y).lf = t.lf ∧ (if p then x else y).st = t.st ∧ (if p then x else y).fa = t.fa) := by
    intro p _ x y hx hy
    split
    · exact hx
    · exact hy
  unfold opF
  repeat' (first | exact ⟨rfl, rfl, rfl, rfl⟩ | apply key)
theorem opF_pc {t : Th} {s op a b c : Int} (hop : 1 ≤ op ∧ op ≤ 15) (h13 : ¬ op = 13) (h14 : ¬ op = 14) (hp : 0 ≤ t.pc ∧ t.pc ≤ 1000) (h : ¬ t.pc = 1000) (hm : mayI op a b c = true) : 0 ≤ (opF t s op a b c).pc ∧ (opF t s op a b c).pc ≤ 1000 := by
  have hj := (mayI_iff.1 hm).2
  have hop' : op = 1 ∨ op = 2 ∨ op = 3 ∨ op = 4 ∨ op = 5 ∨ op = 6 ∨ op = 7 ∨ op = 8 ∨ op = 9 ∨ op = 10 ∨ op = 11 ∨ op = 12 ∨ op = 15 := by omega
  have h1 : 0 ≤ t.pc + 1 ∧ t.pc + 1 ≤ 1000 := by omega
  rcases hop' with rfl | rfl | rfl | rfl | rfl | rfl | rfl | rfl | rfl | rfl | rfl | rfl | rfl
  iterate 9 exact h1
  · exact hj (by decide)
  · have := hj (by decide)
    have this : 0 ≤ b ∧ b ≤ 1000 := this
    show 0 ≤ (if getR t a = 0 then setPc t b else setPc t (t.pc + 1)).pc ∧ (if getR t a = 0 then setPc t b else setPc t (t.pc + 1)).pc ≤ 1000
    split
    · exact this
    · exact h1
  · have := hj (by decide)
    have this : 0 ≤ b ∧ b ≤ 1000 := this
    show 0 ≤ (if getR t a = 0 then setPc t (t.pc + 1) else setPc t b).pc ∧ (if getR t a = 0 then setPc t (t.pc + 1) else setPc t b).pc ≤ 1000
    split
    · exact h1
    · exact this
  · exact h1
/-- An instruction that was done keeps what may be. -/
theorem ap_split {t x : Th} {s op a b c : Int} (h : apF t s op a b c = (x, 0)) : readyF t s = 0 ∧ ¬ t.pc = 1000 ∧ inF op 1 15 = true ∧ mayI op a b c = true ∧ applyF t s op a b c = (x, 0) := by
  by_cases hA : readyF t s = 1 ∨ t.pc = 1000
  · rw [apF_A hA] at h; simp at h
  by_cases hB : readyF t s = 9
  · rw [apF_B hA hB] at h; simp at h
  by_cases hC : inF op 1 15 = false
  · rw [apF_C hA hB hC] at h; simp at h
  by_cases hD : mayI op a b c = false
  · rw [apF_D hA hB hC hD] at h; simp at h
  rw [apF_E hA hB hC hD] at h
  refine ⟨?_, fun h => hA (.inr h), by simpa using hC, by simpa using hD, h⟩
  rcases readyF_or t s with h | h | h
  · exact h
  · exact absurd (.inl h) hA
  · exact absurd h hB
theorem inF_iff {n lo hi : Int} : inF n lo hi = true ↔ lo ≤ n ∧ n ≤ hi := decide_eq_true_iff
theorem ap_keeps {t x : Th} {s op a b c : Int} (h : apF t s op a b c = (x, 0)) : thR x = true ∧ x.st = t.st ∧ x.fa = t.fa ∧ x.lf = t.lf := by
  obtain ⟨h1, h2, h3, h4, h5⟩ := ap_split h
  have hop := inF_iff.1 h3
  obtain ⟨r1, r2, r3, r4⟩ := readyF_iff.1 h1
  by_cases h13 : op = 13
  · subst h13; exact call_keeps h5
  by_cases h14 : op = 14
  · subst h14; exact back_keeps h5
  have e : applyF t s op a b c = (opF t s op a b c, 0) := by rw [applyF, if_neg h13, if_neg h14]
  rw [e] at h5
  obtain ⟨rfl, _⟩ := Prod.mk.inj h5
  obtain ⟨e1, e2, e3, e4⟩ := opF_rest t s op a b c
  have hp := placeF_iff.1 (thR_iff.1 r1).1
  exact ⟨thR_of r1 (placeF_iff.2 (opF_pc hop h13 h14 hp h2 h4)) e1 e2 e3 e4, e3, e4, e2⟩
end Go.Eng
