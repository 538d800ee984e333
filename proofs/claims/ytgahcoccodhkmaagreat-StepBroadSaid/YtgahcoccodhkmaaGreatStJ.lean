/- A part of the walks, and of the machine that proves them (StJ). -/
import Derived.Test.YtgahcoccodhkmaaGreatStI
set_option linter.unusedVariables false
set_option linter.unusedSimpArgs false
namespace Go.Eng
open Go Go.Proofs
set_option maxHeartbeats 4000000 in
set_option maxRecDepth 100000 in
theorem step8_ok : Meets Tryz.prog 28 sStep8 := by
  refine meets_plain I1_ok rfl [5] (fn := Tryz.f28) rfl rfl rfl (by decide) fun ⟨w, i⟩ ⟨ho, hev⟩ => ?_
  have hh := ho.h
  have hlen := world_len ho.r
  have hm := ho.mem
  have hhas : hasW w i = true := decide_eq_true hh
  have hpc0 : 0 ≤ (w.th.getD i.toNat default).pc := ho.pc.1
  by_cases hp : (w.code.length : Int) ≤ (w.th.getD i.toNat default).pc
  · have e1 : sStep8.res (w, i) = .s (rWd (putW w i (faultT (thOf w i) 3))) := by show RV.s (rWd (stepF w i)) = _; rw [stepF_end hp]
    show bodyK Tryz.prog _ _ _ _ sStep8 (w, i)
    unfold bodyK retE
    rw [e1]
    clear e1
    repeat' (first | exact @id (emp _ = true) | (intro h; first | exact Bool.noConfusion h | (simp only [Qn] at h) | skip) | ((conv => whnf) <;> (first | exact trivial | apply Qa | apply And.intro | (exfalso; omega) | (refine CutE.at (A := Wd × Int × Int) (w, i, 3) ?_) | apply Qb | apply Qc | apply Qd | apply Qe | apply Qf | apply Qg | apply Qh | apply Qi | exact QA | exact QP | refine QG ?_ | apply Qj | apply Qk | apply Ql | apply Qm | apply Qo | apply Qp | apply Qw | apply Qv | apply Qu | apply Qt | apply Qs | apply Qr | apply Qq | apply Qx | apply wrapS | apply Qy | (with_reducible exact lenNil) | apply Eq.refl)) | ((with_reducible first | apply Y1 | apply Y2 | apply Y3 | show blkEq _ _ _); conv => whnf))
    all_goals first
      | omega
      | exact hhas
      | (show w.th.length ≤ 1000000; omega)
      | trace_state
  have hpc : (w.th.getD i.toNat default).pc + 1 = IntKind.i64.wrap ((w.th.getD i.toNat default).pc + 1) := pc_wrap ho (show (w.th.getD i.toNat default).pc < w.code.length by omega)
  have hir : insR w.code.length (insOf w (thOf w i)) = true := ho.ins (show (w.th.getD i.toNat default).pc < w.code.length by omega)
  have hth := ho.th
  have hcl := ho.code
  show bodyK Tryz.prog _ _ _ _ sStep8 (w, i)
  unfold bodyK retE
  repeat' (first | exact @id (emp _ = true) | (intro h; first | exact Bool.noConfusion h | (simp only [Qn] at h) | skip) | ((conv => whnf) <;> (first | exact trivial | apply Qa | apply And.intro | (exfalso; omega) | apply Qb | apply Qc | apply Qd | apply Qe | apply Qf | apply Qg | apply Qh | apply Qi | exact QA | exact QP | refine QG ?_ | apply Qj | apply Qk | apply Ql | apply Qm | apply Qo | apply Qp | apply Qw | apply Qv | apply Qu | apply Qt | apply Qs | apply Qr | apply Qq | apply Qx | apply wrapS | apply Qy | (with_reducible exact lenNil) | apply Eq.refl)) | ((with_reducible first | apply Y1 | apply Y2 | apply Y3 | show blkEq _ _ _); conv => whnf))
  all_goals try omega
  apply CutP.up (G := Th × Ins) (fun s => s.1 = thOf w i ∧ s.2 = insOf w (thOf w i)) [1, 2, 4, 5, 6] (fun _ => [(6, .c (.ptr 3 0))]) (fun s => [(2, .row 44 (thE true s.1)), (3, .row 64 (encIns s.2))]) 4
  apply And.intro
  · repeat' (first | exact @id (emp _ = true) | (intro h; first | exact Bool.noConfusion h | (simp only [Qn] at h) | skip) | ((conv => whnf) <;> (first | exact trivial | apply Qa | apply And.intro | refine CutE.at (A := Th × Ins) (thOf w i, insOf w (thOf w i)) ?_ | (exfalso; omega) | apply Qb | apply Qc | apply Qd | apply Qe | apply Qf | apply Qg | apply Qh | apply Qi | exact QA | exact QP | refine QG ?_ | apply Qj | apply Qk | apply Ql | apply Qm | apply Qo | apply Qp | apply Qw | apply Qv | apply Qu | apply Qt | apply Qs | apply Qr | apply Qq | apply Qx | apply wrapS | apply Qy | (with_reducible exact lenNil) | apply Eq.refl)) | ((with_reducible first | apply Y1 | apply Y2 | apply Y3 | show blkEq _ _ _); conv => whnf))
    all_goals first | omega | rfl | trace_state
  rintro ⟨t, op, a, b, c⟩ ⟨ht0, hx0⟩
  have ht : t = thOf w i := ht0
  have hx : (op, a, b, c) = insOf w (thOf w i) := hx0
  clear ht0 hx0
  rw [← hx] at hir
  have hreg := insR_regs hir
  have hop := (insR_at hir).1
  have hpc' : (thOf w i).pc < w.code.length := by show (w.th.getD i.toNat default).pc < _; omega
  have eF : sStep8.res (w, i) = .s (rWd (finW w i (stepX w i (op, a, b, c)))) := by show RV.s (rWd (stepF w i)) = _; rw [stepF_in hp hx.symm]
  have hc : op = 0 ∨ (1 ≤ op ∧ op ≤ 15) ∨ op = 16 ∨ op = 17 ∨ op = 18 ∨ op = 19 ∨ op = 20 ∨ op = 21 ∨ op = 22 ∨ op = 23 ∨ op = 24 ∨ op = 25 ∨ op = 26 := by omega
  rw [← ht] at hpc'
  have hpcw : t.pc + 1 = IntKind.i64.wrap (t.pc + 1) := by rw [ht]; exact hpc
  rcases hc with rfl | hl | rfl | rfl | rfl | rfl | rfl | rfl | rfl | rfl | rfl | rfl | rfl
  · have e1 : sStep8.res (w, i) = .s (rWd (putW w i (stT t 1))) := by rw [eF, ht]; rfl
    rw [e1]
    clear e1 eF
    repeat' (first | exact @id (emp _ = true) | (intro h; first | exact Bool.noConfusion h | (simp only [Qn] at h) | skip) | ((conv => whnf) <;> (first | exact trivial | apply Qa | apply And.intro | (refine CutE.at (A := Wd × Int × Th) (w, i, stT t 1) ?_) | apply Qb | apply Qc | apply Qd | apply Qe | apply Qf | apply Qg | apply Qh | apply Qi | exact QA | exact QP | refine QG ?_ | apply Qj | apply Qk | apply Ql | apply Qm | apply Qo | apply Qp | apply Qw | apply Qv | apply Qu | apply Qt | apply Qs | apply Qr | apply Qq | apply Qx | apply wrapS | apply Qy | (with_reducible exact lenNil) | apply Eq.refl)) | ((with_reducible first | apply Y1 | apply Y2 | apply Y3 | show blkEq _ _ _); conv => whnf))
    all_goals first
      | omega
      | exact hhas
      | exact hpcw
      | (show w.th.length ≤ 1000000; omega)
      | exact ht ▸ hpc'
      | exact (hreg.1 (by omega)).1.1
      | exact (hreg.1 (by omega)).1.2
      | exact (hreg.1 (by omega)).2.1
      | exact (hreg.1 (by omega)).2.2
      | exact (hreg.2.1 (by omega)).1
      | exact (hreg.2.1 (by omega)).2
      | exact ho.r
      | exact ho.h.1
      | exact ho.h.2
      | (refine ⟨ho, ht ▸ hpc', by decide, ?_⟩; first | exact hreg.1 (by omega) | (exact ⟨(hreg.1 (by omega)).1, (hreg.1 (by omega)).2, fun h => hreg.2.1 h⟩))
      | exact ⟨ho, ht ▸ hpc'⟩
      | trace_state
  · have hlc : locF op = true := decide_eq_true hl
    have hmay := mayI_code (by omega) hir hl
    have hnp : ¬ t.pc = 1000 := by omega
    rw [← ht] at hth
    have eX : finW w i (stepX w i (op, a, b, c)) = finW w i (localP w i (op, a, b, c)) := by unfold stepX; rw [if_neg (show ¬ op = 0 by omega), if_pos (show 1 ≤ op ∧ op ≤ 15 from hl)]
    rw [eX] at eF
    by_cases hlf : 0 < t.lf.length
    · have hlf' : (t.lf.length : Int) > 0 := by omega
      have e1 : sStep8.res (w, i) = .s (rWd (putW w i (faultT (thOf w i) 9))) := by rw [eF]; unfold localP; rw [← ht, if_pos hlf, finW_bad (show ¬ (9 : Int) = 0 by decide), ht]
      rw [e1]
      clear e1 eF
      repeat' (first | exact @id (emp _ = true) | (intro h; first | exact Bool.noConfusion h | (simp only [Qn] at h) | skip) | ((conv => whnf) <;> (first | exact trivial | apply Qa | apply And.intro | (exfalso; exact Bool.noConfusion (hlc.symm.trans (by assumption))) | exact absurd hlf' (by assumption) | (refine CutE.at (A := Wd × Int × Int) (w, i, 9) ?_) | apply Qb | apply Qc | apply Qd | apply Qe | apply Qf | apply Qg | apply Qh | apply Qi | exact QA | exact QP | refine QG ?_ | apply Qj | apply Qk | apply Ql | apply Qm | apply Qo | apply Qp | apply Qw | apply Qv | apply Qu | apply Qt | apply Qs | apply Qr | apply Qq | apply Qx | apply wrapS | apply Qy | (with_reducible exact lenNil) | apply Eq.refl)) | ((with_reducible first | apply Y1 | apply Y2 | apply Y3 | show blkEq _ _ _); conv => whnf))
      all_goals first
        | omega
        | exact hhas
        | exact hpcw
        | (show w.th.length ≤ 1000000; omega)
        | exact ht ▸ hpc'
        | exact (hreg.1 (by omega)).1.1
        | exact (hreg.1 (by omega)).1.2
        | exact (hreg.1 (by omega)).2.1
        | exact (hreg.1 (by omega)).2.2
        | exact (hreg.2.1 (by omega)).1
        | exact (hreg.2.1 (by omega)).2
        | exact ho.r
        | exact ho.h.1
        | exact ho.h.2
        | (refine ⟨ho, ht ▸ hpc', by decide, ?_⟩; first | exact hreg.1 (by omega) | (exact ⟨(hreg.1 (by omega)).1, (hreg.1 (by omega)).2, fun h => hreg.2.1 h⟩))
        | exact ⟨ho, ht ▸ hpc'⟩
        | exact hth
        | exact hnp
        | exact hlc
        | exact hmay
        | exact absurd he (by assumption)
        | exact absurd (by assumption) he
        | trace_state
    have hlf' : ¬ (t.lf.length : Int) > 0 := by omega
    have eL : localP w i (op, a, b, c) = (putW w i (apOf i t (op, a, b, c)).1, (apOf i t (op, a, b, c)).2) := by unfold localP; rw [← ht, if_neg hlf]
    rw [eL] at eF
    by_cases he : (apOf i t (op, a, b, c)).2 = 0
    · have e1 : sStep8.res (w, i) = .s (rWd (putW w i (apOf i t (op, a, b, c)).1)) := by rw [eF, finW_ok he]
      rw [e1]
      clear e1 eF
      repeat' (first | exact @id (emp _ = true) | (intro h; first | exact Bool.noConfusion h | (simp only [Qn] at h) | skip) | ((conv => whnf) <;> (first | exact trivial | apply Qa | apply And.intro | exact absurd he (by assumption) | (exfalso; exact Bool.noConfusion (hlc.symm.trans (by assumption))) | exact absurd (by assumption) hlf' | (refine CutE.at (A := Th × Int × Int × Int × Int × Int) (t, i, op, a, b, c) ?_) | (refine CutE.at (A := Wd × Int × Th) (w, i, (apOf i t (op, a, b, c)).1) ?_) | apply Qb | apply Qc | apply Qd | apply Qe | apply Qf | apply Qg | apply Qh | apply Qi | exact QA | exact QP | refine QG ?_ | apply Qj | apply Qk | apply Ql | apply Qm | apply Qo | apply Qp | apply Qw | apply Qv | apply Qu | apply Qt | apply Qs | apply Qr | apply Qq | apply Qx | apply wrapS | apply Qy | (with_reducible exact lenNil) | apply Eq.refl)) | ((with_reducible first | apply Y1 | apply Y2 | apply Y3 | show blkEq _ _ _); conv => whnf))
      all_goals first
        | omega
        | exact hhas
        | exact hpcw
        | (show w.th.length ≤ 1000000; omega)
        | exact ht ▸ hpc'
        | exact (hreg.1 (by omega)).1.1
        | exact (hreg.1 (by omega)).1.2
        | exact (hreg.1 (by omega)).2.1
        | exact (hreg.1 (by omega)).2.2
        | exact (hreg.2.1 (by omega)).1
        | exact (hreg.2.1 (by omega)).2
        | exact ho.r
        | exact ho.h.1
        | exact ho.h.2
        | (refine ⟨ho, ht ▸ hpc', by decide, ?_⟩; first | exact hreg.1 (by omega) | (exact ⟨(hreg.1 (by omega)).1, (hreg.1 (by omega)).2, fun h => hreg.2.1 h⟩))
        | exact ⟨ho, ht ▸ hpc'⟩
        | exact hth
        | exact hnp
        | exact hlc
        | exact hmay
        | exact absurd he (by assumption)
        | exact absurd (by assumption) he
        | trace_state
    · have e1 : sStep8.res (w, i) = .s (rWd (putW w i (faultT (thOf w i) (apOf i t (op, a, b, c)).2))) := by rw [eF, finW_bad he]
      rw [e1]
      clear e1 eF
      repeat' (first | exact @id (emp _ = true) | (intro h; first | exact Bool.noConfusion h | (simp only [Qn] at h) | skip) | ((conv => whnf) <;> (first | exact trivial | apply Qa | apply And.intro | exact absurd (by assumption) he | (exfalso; exact Bool.noConfusion (hlc.symm.trans (by assumption))) | exact absurd (by assumption) hlf' | (refine CutE.at (A := Th × Int × Int × Int × Int × Int) (t, i, op, a, b, c) ?_) | (refine CutE.at (A := Wd × Int × Int) (w, i, (apOf i t (op, a, b, c)).2) ?_) | apply Qb | apply Qc | apply Qd | apply Qe | apply Qf | apply Qg | apply Qh | apply Qi | exact QA | exact QP | refine QG ?_ | apply Qj | apply Qk | apply Ql | apply Qm | apply Qo | apply Qp | apply Qw | apply Qv | apply Qu | apply Qt | apply Qs | apply Qr | apply Qq | apply Qx | apply wrapS | apply Qy | (with_reducible exact lenNil) | apply Eq.refl)) | ((with_reducible first | apply Y1 | apply Y2 | apply Y3 | show blkEq _ _ _); conv => whnf))
      all_goals first
        | omega
        | exact hhas
        | exact hpcw
        | (show w.th.length ≤ 1000000; omega)
        | exact ht ▸ hpc'
        | exact (hreg.1 (by omega)).1.1
        | exact (hreg.1 (by omega)).1.2
        | exact (hreg.1 (by omega)).2.1
        | exact (hreg.1 (by omega)).2.2
        | exact (hreg.2.1 (by omega)).1
        | exact (hreg.2.1 (by omega)).2
        | exact ho.r
        | exact ho.h.1
        | exact ho.h.2
        | (refine ⟨ho, ht ▸ hpc', by decide, ?_⟩; first | exact hreg.1 (by omega) | (exact ⟨(hreg.1 (by omega)).1, (hreg.1 (by omega)).2, fun h => hreg.2.1 h⟩))
        | exact ⟨ho, ht ▸ hpc'⟩
        | exact hth
        | exact hnp
        | exact hlc
        | exact hmay
        | exact absurd he (by assumption)
        | exact absurd (by assumption) he
        | trace_state
  · have e1 : sStep8.res (w, i) = .s (rWd (finW w i (accP w i (16, a, b, c)))) := by rw [eF]; rfl
    rw [e1]
    clear e1 eF
    repeat' (first | exact @id (emp _ = true) | (intro h; first | exact Bool.noConfusion h | (simp only [Qn] at h) | skip) | ((conv => whnf) <;> (first | exact trivial | apply Qa | apply And.intro | (refine CutE.at (A := Wd × Int × Ins) (w, i, 16, a, b, c) ?_) | apply Qb | apply Qc | apply Qd | apply Qe | apply Qf | apply Qg | apply Qh | apply Qi | exact QA | exact QP | refine QG ?_ | apply Qj | apply Qk | apply Ql | apply Qm | apply Qo | apply Qp | apply Qw | apply Qv | apply Qu | apply Qt | apply Qs | apply Qr | apply Qq | apply Qx | apply wrapS | apply Qy | (with_reducible exact lenNil) | apply Eq.refl)) | ((with_reducible first | apply Y1 | apply Y2 | apply Y3 | show blkEq _ _ _); conv => whnf))
    all_goals first
      | omega
      | exact hhas
      | exact hpcw
      | (show w.th.length ≤ 1000000; omega)
      | exact ht ▸ hpc'
      | exact (hreg.1 (by omega)).1.1
      | exact (hreg.1 (by omega)).1.2
      | exact (hreg.1 (by omega)).2.1
      | exact (hreg.1 (by omega)).2.2
      | exact (hreg.2.1 (by omega)).1
      | exact (hreg.2.1 (by omega)).2
      | exact ho.r
      | exact ho.h.1
      | exact ho.h.2
      | (refine ⟨ho, ht ▸ hpc', by decide, ?_⟩; first | exact hreg.1 (by omega) | (exact ⟨(hreg.1 (by omega)).1, (hreg.1 (by omega)).2, fun h => hreg.2.1 h⟩))
      | exact ⟨ho, ht ▸ hpc'⟩
      | trace_state
  · have e1 : sStep8.res (w, i) = .s (rWd (finW w i (accP w i (17, a, b, c)))) := by rw [eF]; rfl
    rw [e1]
    clear e1 eF
    repeat' (first | exact @id (emp _ = true) | (intro h; first | exact Bool.noConfusion h | (simp only [Qn] at h) | skip) | ((conv => whnf) <;> (first | exact trivial | apply Qa | apply And.intro | (refine CutE.at (A := Wd × Int × Ins) (w, i, 17, a, b, c) ?_) | apply Qb | apply Qc | apply Qd | apply Qe | apply Qf | apply Qg | apply Qh | apply Qi | exact QA | exact QP | refine QG ?_ | apply Qj | apply Qk | apply Ql | apply Qm | apply Qo | apply Qp | apply Qw | apply Qv | apply Qu | apply Qt | apply Qs | apply Qr | apply Qq | apply Qx | apply wrapS | apply Qy | (with_reducible exact lenNil) | apply Eq.refl)) | ((with_reducible first | apply Y1 | apply Y2 | apply Y3 | show blkEq _ _ _); conv => whnf))
    all_goals first
      | omega
      | exact hhas
      | exact hpcw
      | (show w.th.length ≤ 1000000; omega)
      | exact ht ▸ hpc'
      | exact (hreg.1 (by omega)).1.1
      | exact (hreg.1 (by omega)).1.2
      | exact (hreg.1 (by omega)).2.1
      | exact (hreg.1 (by omega)).2.2
      | exact (hreg.2.1 (by omega)).1
      | exact (hreg.2.1 (by omega)).2
      | exact ho.r
      | exact ho.h.1
      | exact ho.h.2
      | (refine ⟨ho, ht ▸ hpc', by decide, ?_⟩; first | exact hreg.1 (by omega) | (exact ⟨(hreg.1 (by omega)).1, (hreg.1 (by omega)).2, fun h => hreg.2.1 h⟩))
      | exact ⟨ho, ht ▸ hpc'⟩
      | trace_state
  · have e1 : sStep8.res (w, i) = .s (rWd (putW w i (nextT t))) := by rw [eF, ht]; rfl
    rw [e1]
    clear e1 eF
    repeat' (first | exact @id (emp _ = true) | (intro h; first | exact Bool.noConfusion h | (simp only [Qn] at h) | skip) | ((conv => whnf) <;> (first | exact trivial | apply Qa | apply And.intro | (refine CutE.at (A := Wd × Int × Th) (w, i, nextT t) ?_) | apply Qb | apply Qc | apply Qd | apply Qe | apply Qf | apply Qg | apply Qh | apply Qi | exact QA | exact QP | refine QG ?_ | apply Qj | apply Qk | apply Ql | apply Qm | apply Qo | apply Qp | apply Qw | apply Qv | apply Qu | apply Qt | apply Qs | apply Qr | apply Qq | apply Qx | apply wrapS | apply Qy | (with_reducible exact lenNil) | apply Eq.refl)) | ((with_reducible first | apply Y1 | apply Y2 | apply Y3 | show blkEq _ _ _); conv => whnf))
    all_goals first
      | omega
      | exact hhas
      | exact hpcw
      | (show w.th.length ≤ 1000000; omega)
      | exact ht ▸ hpc'
      | exact (hreg.1 (by omega)).1.1
      | exact (hreg.1 (by omega)).1.2
      | exact (hreg.1 (by omega)).2.1
      | exact (hreg.1 (by omega)).2.2
      | exact (hreg.2.1 (by omega)).1
      | exact (hreg.2.1 (by omega)).2
      | exact ho.r
      | exact ho.h.1
      | exact ho.h.2
      | (refine ⟨ho, ht ▸ hpc', by decide, ?_⟩; first | exact hreg.1 (by omega) | (exact ⟨(hreg.1 (by omega)).1, (hreg.1 (by omega)).2, fun h => hreg.2.1 h⟩))
      | exact ⟨ho, ht ▸ hpc'⟩
      | trace_state
  · have e1 : sStep8.res (w, i) = .s (rWd (finW w i (lockP w i (19, a, b, c)))) := by rw [eF]; rfl
    rw [e1]
    clear e1 eF
    repeat' (first | exact @id (emp _ = true) | (intro h; first | exact Bool.noConfusion h | (simp only [Qn] at h) | skip) | ((conv => whnf) <;> (first | exact trivial | apply Qa | apply And.intro | (refine CutE.at (A := Wd × Int × Ins) (w, i, 19, a, b, c) ?_) | apply Qb | apply Qc | apply Qd | apply Qe | apply Qf | apply Qg | apply Qh | apply Qi | exact QA | exact QP | refine QG ?_ | apply Qj | apply Qk | apply Ql | apply Qm | apply Qo | apply Qp | apply Qw | apply Qv | apply Qu | apply Qt | apply Qs | apply Qr | apply Qq | apply Qx | apply wrapS | apply Qy | (with_reducible exact lenNil) | apply Eq.refl)) | ((with_reducible first | apply Y1 | apply Y2 | apply Y3 | show blkEq _ _ _); conv => whnf))
    all_goals first
      | omega
      | exact hhas
      | exact hpcw
      | (show w.th.length ≤ 1000000; omega)
      | exact ht ▸ hpc'
      | exact (hreg.1 (by omega)).1.1
      | exact (hreg.1 (by omega)).1.2
      | exact (hreg.1 (by omega)).2.1
      | exact (hreg.1 (by omega)).2.2
      | exact (hreg.2.1 (by omega)).1
      | exact (hreg.2.1 (by omega)).2
      | exact ho.r
      | exact ho.h.1
      | exact ho.h.2
      | (refine ⟨ho, ht ▸ hpc', by decide, ?_⟩; first | exact hreg.1 (by omega) | (exact ⟨(hreg.1 (by omega)).1, (hreg.1 (by omega)).2, fun h => hreg.2.1 h⟩))
      | exact ⟨ho, ht ▸ hpc'⟩
      | trace_state
  · have e1 : sStep8.res (w, i) = .s (rWd (finW w i (lockP w i (20, a, b, c)))) := by rw [eF]; rfl
    rw [e1]
    clear e1 eF
    repeat' (first | exact @id (emp _ = true) | (intro h; first | exact Bool.noConfusion h | (simp only [Qn] at h) | skip) | ((conv => whnf) <;> (first | exact trivial | apply Qa | apply And.intro | (refine CutE.at (A := Wd × Int × Ins) (w, i, 20, a, b, c) ?_) | apply Qb | apply Qc | apply Qd | apply Qe | apply Qf | apply Qg | apply Qh | apply Qi | exact QA | exact QP | refine QG ?_ | apply Qj | apply Qk | apply Ql | apply Qm | apply Qo | apply Qp | apply Qw | apply Qv | apply Qu | apply Qt | apply Qs | apply Qr | apply Qq | apply Qx | apply wrapS | apply Qy | (with_reducible exact lenNil) | apply Eq.refl)) | ((with_reducible first | apply Y1 | apply Y2 | apply Y3 | show blkEq _ _ _); conv => whnf))
    all_goals first
      | omega
      | exact hhas
      | exact hpcw
      | (show w.th.length ≤ 1000000; omega)
      | exact ht ▸ hpc'
      | exact (hreg.1 (by omega)).1.1
      | exact (hreg.1 (by omega)).1.2
      | exact (hreg.1 (by omega)).2.1
      | exact (hreg.1 (by omega)).2.2
      | exact (hreg.2.1 (by omega)).1
      | exact (hreg.2.1 (by omega)).2
      | exact ho.r
      | exact ho.h.1
      | exact ho.h.2
      | (refine ⟨ho, ht ▸ hpc', by decide, ?_⟩; first | exact hreg.1 (by omega) | (exact ⟨(hreg.1 (by omega)).1, (hreg.1 (by omega)).2, fun h => hreg.2.1 h⟩))
      | exact ⟨ho, ht ▸ hpc'⟩
      | trace_state
  · have e1 : sStep8.res (w, i) = .s (rWd (finW w i (lockP w i (21, a, b, c)))) := by rw [eF]; rfl
    rw [e1]
    clear e1 eF
    repeat' (first | exact @id (emp _ = true) | (intro h; first | exact Bool.noConfusion h | (simp only [Qn] at h) | skip) | ((conv => whnf) <;> (first | exact trivial | apply Qa | apply And.intro | (refine CutE.at (A := Wd × Int × Ins) (w, i, 21, a, b, c) ?_) | apply Qb | apply Qc | apply Qd | apply Qe | apply Qf | apply Qg | apply Qh | apply Qi | exact QA | exact QP | refine QG ?_ | apply Qj | apply Qk | apply Ql | apply Qm | apply Qo | apply Qp | apply Qw | apply Qv | apply Qu | apply Qt | apply Qs | apply Qr | apply Qq | apply Qx | apply wrapS | apply Qy | (with_reducible exact lenNil) | apply Eq.refl)) | ((with_reducible first | apply Y1 | apply Y2 | apply Y3 | show blkEq _ _ _); conv => whnf))
    all_goals first
      | omega
      | exact hhas
      | exact hpcw
      | (show w.th.length ≤ 1000000; omega)
      | exact ht ▸ hpc'
      | exact (hreg.1 (by omega)).1.1
      | exact (hreg.1 (by omega)).1.2
      | exact (hreg.1 (by omega)).2.1
      | exact (hreg.1 (by omega)).2.2
      | exact (hreg.2.1 (by omega)).1
      | exact (hreg.2.1 (by omega)).2
      | exact ho.r
      | exact ho.h.1
      | exact ho.h.2
      | (refine ⟨ho, ht ▸ hpc', by decide, ?_⟩; first | exact hreg.1 (by omega) | (exact ⟨(hreg.1 (by omega)).1, (hreg.1 (by omega)).2, fun h => hreg.2.1 h⟩))
      | exact ⟨ho, ht ▸ hpc'⟩
      | trace_state
  · have e1 : sStep8.res (w, i) = .s (rWd ((broadP w i).1)) := by rw [eF]; show RV.s (rWd (finW w i (broadP w i))) = _; rw [finW_ok (broadP_err w i)]
    rw [e1]
    clear e1 eF
    repeat' (first | exact @id (emp _ = true) | (intro h; first | exact Bool.noConfusion h | (simp only [Qn] at h) | skip) | ((conv => whnf) <;> (first | exact trivial | apply Qa | apply And.intro | (refine CutE.at (A := Wd × Int) (w, i) ?_) | apply Qb | apply Qc | apply Qd | apply Qe | apply Qf | apply Qg | apply Qh | apply Qi | exact QA | exact QP | refine QG ?_ | apply Qj | apply Qk | apply Ql | apply Qm | apply Qo | apply Qp | apply Qw | apply Qv | apply Qu | apply Qt | apply Qs | apply Qr | apply Qq | apply Qx | apply wrapS | apply Qy | (with_reducible exact lenNil) | apply Eq.refl)) | ((with_reducible first | apply Y1 | apply Y2 | apply Y3 | show blkEq _ _ _); conv => whnf))
    all_goals first
      | omega
      | exact hhas
      | exact hpcw
      | (show w.th.length ≤ 1000000; omega)
      | exact ht ▸ hpc'
      | exact (hreg.1 (by omega)).1.1
      | exact (hreg.1 (by omega)).1.2
      | exact (hreg.1 (by omega)).2.1
      | exact (hreg.1 (by omega)).2.2
      | exact (hreg.2.1 (by omega)).1
      | exact (hreg.2.1 (by omega)).2
      | exact ho.r
      | exact ho.h.1
      | exact ho.h.2
      | (refine ⟨ho, ht ▸ hpc', by decide, ?_⟩; first | exact hreg.1 (by omega) | (exact ⟨(hreg.1 (by omega)).1, (hreg.1 (by omega)).2, fun h => hreg.2.1 h⟩))
      | exact ⟨ho, ht ▸ hpc'⟩
      | trace_state
  · have e1 : sStep8.res (w, i) = .s (rWd (putW w i (nextT t))) := by rw [eF, ht]; rfl
    rw [e1]
    clear e1 eF
    repeat' (first | exact @id (emp _ = true) | (intro h; first | exact Bool.noConfusion h | (simp only [Qn] at h) | skip) | ((conv => whnf) <;> (first | exact trivial | apply Qa | apply And.intro | (refine CutE.at (A := Wd × Int × Th) (w, i, nextT t) ?_) | apply Qb | apply Qc | apply Qd | apply Qe | apply Qf | apply Qg | apply Qh | apply Qi | exact QA | exact QP | refine QG ?_ | apply Qj | apply Qk | apply Ql | apply Qm | apply Qo | apply Qp | apply Qw | apply Qv | apply Qu | apply Qt | apply Qs | apply Qr | apply Qq | apply Qx | apply wrapS | apply Qy | (with_reducible exact lenNil) | apply Eq.refl)) | ((with_reducible first | apply Y1 | apply Y2 | apply Y3 | show blkEq _ _ _); conv => whnf))
    all_goals first
      | omega
      | exact hhas
      | exact hpcw
      | (show w.th.length ≤ 1000000; omega)
      | exact ht ▸ hpc'
      | exact (hreg.1 (by omega)).1.1
      | exact (hreg.1 (by omega)).1.2
      | exact (hreg.1 (by omega)).2.1
      | exact (hreg.1 (by omega)).2.2
      | exact (hreg.2.1 (by omega)).1
      | exact (hreg.2.1 (by omega)).2
      | exact ho.r
      | exact ho.h.1
      | exact ho.h.2
      | (refine ⟨ho, ht ▸ hpc', by decide, ?_⟩; first | exact hreg.1 (by omega) | (exact ⟨(hreg.1 (by omega)).1, (hreg.1 (by omega)).2, fun h => hreg.2.1 h⟩))
      | exact ⟨ho, ht ▸ hpc'⟩
      | trace_state
  · have e1 : sStep8.res (w, i) = .s (rWd (finW w i (markP w i (24, a, b, c)))) := by rw [eF]; rfl
    rw [e1]
    clear e1 eF
    repeat' (first | exact @id (emp _ = true) | (intro h; first | exact Bool.noConfusion h | (simp only [Qn] at h) | skip) | ((conv => whnf) <;> (first | exact trivial | apply Qa | apply And.intro | (refine CutE.at (A := Wd × Int × Ins) (w, i, 24, a, b, c) ?_) | apply Qb | apply Qc | apply Qd | apply Qe | apply Qf | apply Qg | apply Qh | apply Qi | exact QA | exact QP | refine QG ?_ | apply Qj | apply Qk | apply Ql | apply Qm | apply Qo | apply Qp | apply Qw | apply Qv | apply Qu | apply Qt | apply Qs | apply Qr | apply Qq | apply Qx | apply wrapS | apply Qy | (with_reducible exact lenNil) | apply Eq.refl)) | ((with_reducible first | apply Y1 | apply Y2 | apply Y3 | show blkEq _ _ _); conv => whnf))
    all_goals first
      | omega
      | exact hhas
      | exact hpcw
      | (show w.th.length ≤ 1000000; omega)
      | exact ht ▸ hpc'
      | exact (hreg.1 (by omega)).1.1
      | exact (hreg.1 (by omega)).1.2
      | exact (hreg.1 (by omega)).2.1
      | exact (hreg.1 (by omega)).2.2
      | exact (hreg.2.1 (by omega)).1
      | exact (hreg.2.1 (by omega)).2
      | exact ho.r
      | exact ho.h.1
      | exact ho.h.2
      | (refine ⟨ho, ht ▸ hpc', by decide, ?_⟩; first | exact hreg.1 (by omega) | (exact ⟨(hreg.1 (by omega)).1, (hreg.1 (by omega)).2, fun h => hreg.2.1 h⟩))
      | exact ⟨ho, ht ▸ hpc'⟩
      | trace_state
  · have e1 : sStep8.res (w, i) = .s (rWd (finW w i (markP w i (25, a, b, c)))) := by rw [eF]; rfl
    rw [e1]
    clear e1 eF
    repeat' (first | exact @id (emp _ = true) | (intro h; first | exact Bool.noConfusion h | (simp only [Qn] at h) | skip) | ((conv => whnf) <;> (first | exact trivial | apply Qa | apply And.intro | (refine CutE.at (A := Wd × Int × Ins) (w, i, 25, a, b, c) ?_) | apply Qb | apply Qc | apply Qd | apply Qe | apply Qf | apply Qg | apply Qh | apply Qi | exact QA | exact QP | refine QG ?_ | apply Qj | apply Qk | apply Ql | apply Qm | apply Qo | apply Qp | apply Qw | apply Qv | apply Qu | apply Qt | apply Qs | apply Qr | apply Qq | apply Qx | apply wrapS | apply Qy | (with_reducible exact lenNil) | apply Eq.refl)) | ((with_reducible first | apply Y1 | apply Y2 | apply Y3 | show blkEq _ _ _); conv => whnf))
    all_goals first
      | omega
      | exact hhas
      | exact hpcw
      | (show w.th.length ≤ 1000000; omega)
      | exact ht ▸ hpc'
      | exact (hreg.1 (by omega)).1.1
      | exact (hreg.1 (by omega)).1.2
      | exact (hreg.1 (by omega)).2.1
      | exact (hreg.1 (by omega)).2.2
      | exact (hreg.2.1 (by omega)).1
      | exact (hreg.2.1 (by omega)).2
      | exact ho.r
      | exact ho.h.1
      | exact ho.h.2
      | (refine ⟨ho, ht ▸ hpc', by decide, ?_⟩; first | exact hreg.1 (by omega) | (exact ⟨(hreg.1 (by omega)).1, (hreg.1 (by omega)).2, fun h => hreg.2.1 h⟩))
      | exact ⟨ho, ht ▸ hpc'⟩
      | trace_state
  · have e1 : sStep8.res (w, i) = .s (rWd (putW (evW w (evOf i t (26, a, b, c))) i (nextT t))) := by rw [eF, ht]; rfl
    rw [e1]
    clear e1 eF
    repeat' (first | exact @id (emp _ = true) | (intro h; first | exact Bool.noConfusion h | (simp only [Qn] at h) | skip) | ((conv => whnf) <;> (first | exact trivial | apply Qa | apply And.intro | (refine CutE.at (A := Wd × Int × Th) (evW w (evOf i t (26, a, b, c)), i, nextT t) ?_) | apply Qb | apply Qc | apply Qd | apply Qe | apply Qf | apply Qg | apply Qh | apply Qi | exact QA | exact QP | refine QG ?_ | apply Qj | apply Qk | apply Ql | apply Qm | apply Qo | apply Qp | apply Qw | apply Qv | apply Qu | apply Qt | apply Qs | apply Qr | apply Qq | apply Qx | apply wrapS | apply Qy | (with_reducible exact lenNil) | apply Eq.refl)) | ((with_reducible first | apply Y1 | apply Y2 | apply Y3 | show blkEq _ _ _); conv => whnf))
    all_goals first
      | omega
      | exact hhas
      | exact hpcw
      | (show w.th.length ≤ 1000000; omega)
      | exact ht ▸ hpc'
      | exact (hreg.1 (by omega)).1.1
      | exact (hreg.1 (by omega)).1.2
      | exact (hreg.1 (by omega)).2.1
      | exact (hreg.1 (by omega)).2.2
      | exact (hreg.2.1 (by omega)).1
      | exact (hreg.2.1 (by omega)).2
      | exact ho.r
      | exact ho.h.1
      | exact ho.h.2
      | (refine ⟨ho, ht ▸ hpc', by decide, ?_⟩; first | exact hreg.1 (by omega) | (exact ⟨(hreg.1 (by omega)).1, (hreg.1 (by omega)).2, fun h => hreg.2.1 h⟩))
      | exact ⟨ho, ht ▸ hpc'⟩
      | (show (0 + w.ev.length) * 48 ≤ _; omega)
      | (show (0 + w.ev.length + 1) * 48 ≤ _; omega)
      | (show (w.ev ++ [_]).length = _; rw [List.length_append, List.length_singleton]; omega)
      | (refine ev_cat ?_ (by assumption); have hq := ‹_ < (evW w _).ev.length›; have hq : _ < (w.ev ++ [_]).length := hq; rw [List.length_append, List.length_singleton] at hq; exact hq)
      | trace_state
end Go.Eng
