/- A part of the walks, and of the machine that proves them (StRb). -/
import Derived.Test.YtgahcoccodhkmaaGreatStR
set_option linter.unusedVariables false
set_option linter.unusedSimpArgs false
namespace Go.Eng
open Go Go.Proofs
set_option maxHeartbeats 2000000 in
set_option maxRecDepth 100000 in
theorem doBad_ok : Meets Tryz.prog 34 sDoBad := by
  refine meets_lentPan 1 R81_ok rfl [] (fn := Tryz.f34) rfl rfl rfl (by decide) (fun _ => rfl) (fun _ => rfl) (by decide) fun ⟨w, i, t, op, a, b, c⟩ ⟨hp, he⟩ => ?_
  have ho : 0 ≤ op ∧ op ≤ 27 := hp.fo
  have hpc : t.pc + 1 = IntKind.i64.wrap (t.pc + 1) := by have := hp.fp; rw [wrap_i64 (by omega)]
  have hpc0 : t.pc = IntKind.i64.wrap (IntKind.i64.wrap (t.pc + 1) - 1) := by have := hp.fp; rw [← hpc, wrap_i64 (by omega)]; omega
  have hr := hp.fr
  have hr2 := hp.fr2
  have hs1 := hp.fl.1
  have hs2 := hp.fl.2
  have ht1 := hp.ft.1
  have ht2 := hp.ft.2
  have hn := hp.fn
  have hev := hp.fe
  have hc : (1 ≤ op ∧ op ≤ 15) ∨ op = 0 ∨ op = 16 ∨ op = 17 ∨ op = 18 ∨ op = 19 ∨ op = 20 ∨ op = 21 ∨ op = 22 ∨ op = 23 ∨ op = 24 ∨ op = 25 ∨ op = 26 ∨ op = 27 := by omega
  rcases hc with hl | rfl | rfl | rfl | rfl | rfl | rfl | rfl | rfl | rfl | rfl | rfl | rfl | rfl
  · have eX : workX w i t (op, a, b, c) = ((w, (apX i t (op, a, b, c)).1), (apX i t (op, a, b, c)).2) := if_pos hl
    have he : ¬ (apX i t (op, a, b, c)).2 = 0 := by have he : ¬ (workX w i t (op, a, b, c)).2 = 0 := he; rw [eX] at he; exact he
    have he : ¬ ((apX i t (op, a, b, c)).2) = 0 := he
    have e1 : sDoBad.panics ⟨w, i, t, (op, a, b, c)⟩ = some (chF ((apX i t (op, a, b, c)).2)) := by show some (chF (workX w i t (op, a, b, c)).2) = _; rw [eX]
    show bodyK Tryz.prog _ _ _ _ sDoBad _
    unfold bodyK panE
    rw [e1]
    clear e1
    repeat' (first | exact @id (emp _ = true) | (intro h; first | exact Bool.noConfusion h | (simp only [Qn] at h) | skip) | ((conv => whnf) <;> (first | exact trivial | apply Qa | apply And.intro | exact absurd (by assumption) he | apply RegP.pan | apply CallP.inr | (refine CutE.at (A := Th × Int × Int × Int × Int × Int) (t, i, op, a, b, c) ?_) | (exfalso; omega) | apply Qb | apply Qc | apply Qd | apply Qe | apply Qf | apply Qg | apply Qh | apply Qi | exact QA | exact QP | refine QG ?_ | apply Qj | apply Qk | apply Ql | apply Qm | apply Qo | apply Qp | apply Qw | apply Qv | apply Qu | apply Qt | apply Qs | apply Qr | apply Qq | apply Qx | apply wrapS | apply Qy | (with_reducible exact lenNil) | apply Eq.refl)) | ((with_reducible first | apply Y1 | apply Y2 | apply Y3 | show blkEq _ _ _); conv => whnf))
    all_goals first
      | omega
      | exact hpc
      | exact hpc0
      | exact hs1
      | exact hs2 _
      | exact ht1
      | exact ht2
      | exact he
      | exact he.symm
      | exact (hr (by omega)).1.1
      | exact (hr (by omega)).1.2
      | exact (hr (by omega)).2.1
      | exact (hr (by omega)).2.2
      | exact (hr2 (by omega)).1
      | exact (hr2 (by omega)).2
      | exact trivial
      | exact hev
      | exact hn.1
      | exact hn.2
      | exact absurd he (by assumption)
      | exact absurd (by assumption) he
      | (show w.ev.length + 1 ≤ 9223372036854775807; omega)
      | (show (w.ev.length + 1) * 48 ≤ _; omega)
      | (show (w.ev ++ [_]).length = _; rw [List.length_append, List.length_singleton])
      | (refine (slG_snoc (enc := encEv) (l := w.ev) (k := 6) (n := w.ev.length) (x := evOf i t (26, a, b, c)) rfl rfl _ ?_ _ (by assumption)).symm; have hq := ‹_ < (evW w _).ev.length›; have hq : _ < (w.ev ++ [_]).length := hq; rw [List.length_append, List.length_singleton] at hq; exact hq)
      | trace_state
  · exact absurd rfl he
  · have he : ¬ ((loadT (tsoOf w) i (atOf t (16, a, b, c))).2) = 0 := he
    have e1 : sDoBad.panics ⟨w, i, t, (16, a, b, c)⟩ = some (chF ((loadT (tsoOf w) i (atOf t (16, a, b, c))).2)) := rfl
    show bodyK Tryz.prog _ _ _ _ sDoBad _
    unfold bodyK panE
    rw [e1]
    clear e1
    repeat' (first | exact @id (emp _ = true) | (intro h; first | exact Bool.noConfusion h | (simp only [Qn] at h) | skip) | ((conv => whnf) <;> (first | exact trivial | apply Qa | apply And.intro | exact absurd (by assumption) he | apply RegP.pan | apply CallP.inr | (refine CutE.at (A := Wk8) (w, i, nextT t, 16, a, b, c) ?_) | apply Qb | apply Qc | apply Qd | apply Qe | apply Qf | apply Qg | apply Qh | apply Qi | exact QA | exact QP | refine QG ?_ | apply Qj | apply Qk | apply Ql | apply Qm | apply Qo | apply Qp | apply Qw | apply Qv | apply Qu | apply Qt | apply Qs | apply Qr | apply Qq | apply Qx | apply wrapS | apply Qy | (with_reducible exact lenNil) | apply Eq.refl)) | ((with_reducible first | apply Y1 | apply Y2 | apply Y3 | show blkEq _ _ _); conv => whnf))
    all_goals first
      | omega
      | exact hpc
      | exact hpc0
      | exact hs1
      | exact hs2 _
      | exact ht1
      | exact ht2
      | exact he
      | exact he.symm
      | exact (hr (by omega)).1.1
      | exact (hr (by omega)).1.2
      | exact (hr (by omega)).2.1
      | exact (hr (by omega)).2.2
      | exact (hr2 (by omega)).1
      | exact (hr2 (by omega)).2
      | exact trivial
      | exact hev
      | exact hn.1
      | exact hn.2
      | exact absurd he (by assumption)
      | exact absurd (by assumption) he
      | (show w.ev.length + 1 ≤ 9223372036854775807; omega)
      | (show (w.ev.length + 1) * 48 ≤ _; omega)
      | (show (w.ev ++ [_]).length = _; rw [List.length_append, List.length_singleton])
      | (refine (slG_snoc (enc := encEv) (l := w.ev) (k := 6) (n := w.ev.length) (x := evOf i t (26, a, b, c)) rfl rfl _ ?_ _ (by assumption)).symm; have hq := ‹_ < (evW w _).ev.length›; have hq : _ < (w.ev ++ [_]).length := hq; rw [List.length_append, List.length_singleton] at hq; exact hq)
      | trace_state
  · have he : ¬ ((storeT (tsoOf w) i (atOf t (17, a, b, c)) (getR t a)).2) = 0 := he
    have e1 : sDoBad.panics ⟨w, i, t, (17, a, b, c)⟩ = some (chF ((storeT (tsoOf w) i (atOf t (17, a, b, c)) (getR t a)).2)) := rfl
    show bodyK Tryz.prog _ _ _ _ sDoBad _
    unfold bodyK panE
    rw [e1]
    clear e1
    repeat' (first | exact @id (emp _ = true) | (intro h; first | exact Bool.noConfusion h | (simp only [Qn] at h) | skip) | ((conv => whnf) <;> (first | exact trivial | apply Qa | apply And.intro | exact absurd (by assumption) he | apply RegP.pan | apply CallP.inr | (refine CutE.at (A := Wk8) (w, i, nextT t, 17, a, b, c) ?_) | apply Qb | apply Qc | apply Qd | apply Qe | apply Qf | apply Qg | apply Qh | apply Qi | exact QA | exact QP | refine QG ?_ | apply Qj | apply Qk | apply Ql | apply Qm | apply Qo | apply Qp | apply Qw | apply Qv | apply Qu | apply Qt | apply Qs | apply Qr | apply Qq | apply Qx | apply wrapS | apply Qy | (with_reducible exact lenNil) | apply Eq.refl)) | ((with_reducible first | apply Y1 | apply Y2 | apply Y3 | show blkEq _ _ _); conv => whnf))
    all_goals first
      | omega
      | exact hpc
      | exact hpc0
      | exact hs1
      | exact hs2 _
      | exact ht1
      | exact ht2
      | exact he
      | exact he.symm
      | exact (hr (by omega)).1.1
      | exact (hr (by omega)).1.2
      | exact (hr (by omega)).2.1
      | exact (hr (by omega)).2.2
      | exact (hr2 (by omega)).1
      | exact (hr2 (by omega)).2
      | exact trivial
      | exact hev
      | exact hn.1
      | exact hn.2
      | exact absurd he (by assumption)
      | exact absurd (by assumption) he
      | (show w.ev.length + 1 ≤ 9223372036854775807; omega)
      | (show (w.ev.length + 1) * 48 ≤ _; omega)
      | (show (w.ev ++ [_]).length = _; rw [List.length_append, List.length_singleton])
      | (refine (slG_snoc (enc := encEv) (l := w.ev) (k := 6) (n := w.ev.length) (x := evOf i t (26, a, b, c)) rfl rfl _ ?_ _ (by assumption)).symm; have hq := ‹_ < (evW w _).ev.length›; have hq : _ < (w.ev ++ [_]).length := hq; rw [List.length_append, List.length_singleton] at hq; exact hq)
      | trace_state
  · exact absurd rfl he
  · have he : ¬ ((lkT w i t (19, a, b, c) 0 (getR t c)).2.2) = 0 := he
    have e1 : sDoBad.panics ⟨w, i, t, (19, a, b, c)⟩ = some (chF ((lkT w i t (19, a, b, c) 0 (getR t c)).2.2)) := rfl
    show bodyK Tryz.prog _ _ _ _ sDoBad _
    unfold bodyK panE
    rw [e1]
    clear e1
    repeat' (first | exact @id (emp _ = true) | (intro h; first | exact Bool.noConfusion h | (simp only [Qn] at h) | skip) | ((conv => whnf) <;> (first | exact trivial | apply Qa | apply And.intro | exact absurd (by assumption) he | apply RegP.pan | apply CallP.inr | (refine CutE.at (A := Wd × Int × Th × Ins × Int × Int) (w, i, nextT t, (19, a, b, c), 0, (getR t c)) ?_) | apply Qb | apply Qc | apply Qd | apply Qe | apply Qf | apply Qg | apply Qh | apply Qi | exact QA | exact QP | refine QG ?_ | apply Qj | apply Qk | apply Ql | apply Qm | apply Qo | apply Qp | apply Qw | apply Qv | apply Qu | apply Qt | apply Qs | apply Qr | apply Qq | apply Qx | apply wrapS | apply Qy | (with_reducible exact lenNil) | apply Eq.refl)) | ((with_reducible first | apply Y1 | apply Y2 | apply Y3 | show blkEq _ _ _); conv => whnf))
    all_goals first
      | omega
      | exact hpc
      | exact hpc0
      | exact hs1
      | exact hs2 _
      | exact ht1
      | exact ht2
      | exact he
      | exact he.symm
      | exact (hr (by omega)).1.1
      | exact (hr (by omega)).1.2
      | exact (hr (by omega)).2.1
      | exact (hr (by omega)).2.2
      | exact (hr2 (by omega)).1
      | exact (hr2 (by omega)).2
      | exact trivial
      | exact hev
      | exact hn.1
      | exact hn.2
      | exact absurd he (by assumption)
      | exact absurd (by assumption) he
      | (show w.ev.length + 1 ≤ 9223372036854775807; omega)
      | (show (w.ev.length + 1) * 48 ≤ _; omega)
      | (show (w.ev ++ [_]).length = _; rw [List.length_append, List.length_singleton])
      | (refine (slG_snoc (enc := encEv) (l := w.ev) (k := 6) (n := w.ev.length) (x := evOf i t (26, a, b, c)) rfl rfl _ ?_ _ (by assumption)).symm; have hq := ‹_ < (evW w _).ev.length›; have hq : _ < (w.ev ++ [_]).length := hq; rw [List.length_append, List.length_singleton] at hq; exact hq)
      | trace_state
  · have he : ¬ ((lkT w i t (20, a, b, c) 1 0).2.2) = 0 := he
    have e1 : sDoBad.panics ⟨w, i, t, (20, a, b, c)⟩ = some (chF ((lkT w i t (20, a, b, c) 1 0).2.2)) := rfl
    show bodyK Tryz.prog _ _ _ _ sDoBad _
    unfold bodyK panE
    rw [e1]
    clear e1
    repeat' (first | exact @id (emp _ = true) | (intro h; first | exact Bool.noConfusion h | (simp only [Qn] at h) | skip) | ((conv => whnf) <;> (first | exact trivial | apply Qa | apply And.intro | exact absurd (by assumption) he | apply RegP.pan | apply CallP.inr | (refine CutE.at (A := Wd × Int × Th × Ins × Int × Int) (w, i, nextT t, (20, a, b, c), 1, 0) ?_) | apply Qb | apply Qc | apply Qd | apply Qe | apply Qf | apply Qg | apply Qh | apply Qi | exact QA | exact QP | refine QG ?_ | apply Qj | apply Qk | apply Ql | apply Qm | apply Qo | apply Qp | apply Qw | apply Qv | apply Qu | apply Qt | apply Qs | apply Qr | apply Qq | apply Qx | apply wrapS | apply Qy | (with_reducible exact lenNil) | apply Eq.refl)) | ((with_reducible first | apply Y1 | apply Y2 | apply Y3 | show blkEq _ _ _); conv => whnf))
    all_goals first
      | omega
      | exact hpc
      | exact hpc0
      | exact hs1
      | exact hs2 _
      | exact ht1
      | exact ht2
      | exact he
      | exact he.symm
      | exact (hr (by omega)).1.1
      | exact (hr (by omega)).1.2
      | exact (hr (by omega)).2.1
      | exact (hr (by omega)).2.2
      | exact (hr2 (by omega)).1
      | exact (hr2 (by omega)).2
      | exact trivial
      | exact hev
      | exact hn.1
      | exact hn.2
      | exact absurd he (by assumption)
      | exact absurd (by assumption) he
      | (show w.ev.length + 1 ≤ 9223372036854775807; omega)
      | (show (w.ev.length + 1) * 48 ≤ _; omega)
      | (show (w.ev ++ [_]).length = _; rw [List.length_append, List.length_singleton])
      | (refine (slG_snoc (enc := encEv) (l := w.ev) (k := 6) (n := w.ev.length) (x := evOf i t (26, a, b, c)) rfl rfl _ ?_ _ (by assumption)).symm; have hq := ‹_ < (evW w _).ev.length›; have hq : _ < (w.ev ++ [_]).length := hq; rw [List.length_append, List.length_singleton] at hq; exact hq)
      | trace_state
  · have he : ¬ ((lkT w i t (21, a, b, c) 2 0).2.2) = 0 := he
    have e1 : sDoBad.panics ⟨w, i, t, (21, a, b, c)⟩ = some (chF ((lkT w i t (21, a, b, c) 2 0).2.2)) := rfl
    show bodyK Tryz.prog _ _ _ _ sDoBad _
    unfold bodyK panE
    rw [e1]
    clear e1
    repeat' (first | exact @id (emp _ = true) | (intro h; first | exact Bool.noConfusion h | (simp only [Qn] at h) | skip) | ((conv => whnf) <;> (first | exact trivial | apply Qa | apply And.intro | exact absurd (by assumption) he | apply RegP.pan | apply CallP.inr | (refine CutE.at (A := Wd × Int × Th × Ins × Int × Int) (w, i, nextT t, (21, a, b, c), 2, 0) ?_) | apply Qb | apply Qc | apply Qd | apply Qe | apply Qf | apply Qg | apply Qh | apply Qi | exact QA | exact QP | refine QG ?_ | apply Qj | apply Qk | apply Ql | apply Qm | apply Qo | apply Qp | apply Qw | apply Qv | apply Qu | apply Qt | apply Qs | apply Qr | apply Qq | apply Qx | apply wrapS | apply Qy | (with_reducible exact lenNil) | apply Eq.refl)) | ((with_reducible first | apply Y1 | apply Y2 | apply Y3 | show blkEq _ _ _); conv => whnf))
    all_goals first
      | omega
      | exact hpc
      | exact hpc0
      | exact hs1
      | exact hs2 _
      | exact ht1
      | exact ht2
      | exact he
      | exact he.symm
      | exact (hr (by omega)).1.1
      | exact (hr (by omega)).1.2
      | exact (hr (by omega)).2.1
      | exact (hr (by omega)).2.2
      | exact (hr2 (by omega)).1
      | exact (hr2 (by omega)).2
      | exact trivial
      | exact hev
      | exact hn.1
      | exact hn.2
      | exact absurd he (by assumption)
      | exact absurd (by assumption) he
      | (show w.ev.length + 1 ≤ 9223372036854775807; omega)
      | (show (w.ev.length + 1) * 48 ≤ _; omega)
      | (show (w.ev ++ [_]).length = _; rw [List.length_append, List.length_singleton])
      | (refine (slG_snoc (enc := encEv) (l := w.ev) (k := 6) (n := w.ev.length) (x := evOf i t (26, a, b, c)) rfl rfl _ ?_ _ (by assumption)).symm; have hq := ‹_ < (evW w _).ev.length›; have hq : _ < (w.ev ++ [_]).length := hq; rw [List.length_append, List.length_singleton] at hq; exact hq)
      | trace_state
  · exact absurd rfl he
  · exact absurd rfl he
  · have he : ¬ ((mkT w t (24, a, b, c) 1).2) = 0 := he
    have e1 : sDoBad.panics ⟨w, i, t, (24, a, b, c)⟩ = some (chF ((mkT w t (24, a, b, c) 1).2)) := rfl
    show bodyK Tryz.prog _ _ _ _ sDoBad _
    unfold bodyK panE
    rw [e1]
    clear e1
    repeat' (first | exact @id (emp _ = true) | (intro h; first | exact Bool.noConfusion h | (simp only [Qn] at h) | skip) | ((conv => whnf) <;> (first | exact trivial | apply Qa | apply And.intro | exact absurd (by assumption) he | apply RegP.pan | apply CallP.inr | (refine CutE.at (A := Wd × Int × Th × Ins × Int) (w, i, nextT t, (24, a, b, c), 1) ?_) | apply Qb | apply Qc | apply Qd | apply Qe | apply Qf | apply Qg | apply Qh | apply Qi | exact QA | exact QP | refine QG ?_ | apply Qj | apply Qk | apply Ql | apply Qm | apply Qo | apply Qp | apply Qw | apply Qv | apply Qu | apply Qt | apply Qs | apply Qr | apply Qq | apply Qx | apply wrapS | apply Qy | (with_reducible exact lenNil) | apply Eq.refl)) | ((with_reducible first | apply Y1 | apply Y2 | apply Y3 | show blkEq _ _ _); conv => whnf))
    all_goals first
      | omega
      | exact hpc
      | exact hpc0
      | exact hs1
      | exact hs2 _
      | exact ht1
      | exact ht2
      | exact he
      | exact he.symm
      | exact (hr (by omega)).1.1
      | exact (hr (by omega)).1.2
      | exact (hr (by omega)).2.1
      | exact (hr (by omega)).2.2
      | exact (hr2 (by omega)).1
      | exact (hr2 (by omega)).2
      | exact trivial
      | exact hev
      | exact hn.1
      | exact hn.2
      | exact absurd he (by assumption)
      | exact absurd (by assumption) he
      | (show w.ev.length + 1 ≤ 9223372036854775807; omega)
      | (show (w.ev.length + 1) * 48 ≤ _; omega)
      | (show (w.ev ++ [_]).length = _; rw [List.length_append, List.length_singleton])
      | (refine (slG_snoc (enc := encEv) (l := w.ev) (k := 6) (n := w.ev.length) (x := evOf i t (26, a, b, c)) rfl rfl _ ?_ _ (by assumption)).symm; have hq := ‹_ < (evW w _).ev.length›; have hq : _ < (w.ev ++ [_]).length := hq; rw [List.length_append, List.length_singleton] at hq; exact hq)
      | trace_state
  · have he : ¬ ((mkT w t (25, a, b, c) 2).2) = 0 := he
    have e1 : sDoBad.panics ⟨w, i, t, (25, a, b, c)⟩ = some (chF ((mkT w t (25, a, b, c) 2).2)) := rfl
    show bodyK Tryz.prog _ _ _ _ sDoBad _
    unfold bodyK panE
    rw [e1]
    clear e1
    repeat' (first | exact @id (emp _ = true) | (intro h; first | exact Bool.noConfusion h | (simp only [Qn] at h) | skip) | ((conv => whnf) <;> (first | exact trivial | apply Qa | apply And.intro | exact absurd (by assumption) he | apply RegP.pan | apply CallP.inr | (refine CutE.at (A := Wd × Int × Th × Ins × Int) (w, i, nextT t, (25, a, b, c), 2) ?_) | apply Qb | apply Qc | apply Qd | apply Qe | apply Qf | apply Qg | apply Qh | apply Qi | exact QA | exact QP | refine QG ?_ | apply Qj | apply Qk | apply Ql | apply Qm | apply Qo | apply Qp | apply Qw | apply Qv | apply Qu | apply Qt | apply Qs | apply Qr | apply Qq | apply Qx | apply wrapS | apply Qy | (with_reducible exact lenNil) | apply Eq.refl)) | ((with_reducible first | apply Y1 | apply Y2 | apply Y3 | show blkEq _ _ _); conv => whnf))
    all_goals first
      | omega
      | exact hpc
      | exact hpc0
      | exact hs1
      | exact hs2 _
      | exact ht1
      | exact ht2
      | exact he
      | exact he.symm
      | exact (hr (by omega)).1.1
      | exact (hr (by omega)).1.2
      | exact (hr (by omega)).2.1
      | exact (hr (by omega)).2.2
      | exact (hr2 (by omega)).1
      | exact (hr2 (by omega)).2
      | exact trivial
      | exact hev
      | exact hn.1
      | exact hn.2
      | exact absurd he (by assumption)
      | exact absurd (by assumption) he
      | (show w.ev.length + 1 ≤ 9223372036854775807; omega)
      | (show (w.ev.length + 1) * 48 ≤ _; omega)
      | (show (w.ev ++ [_]).length = _; rw [List.length_append, List.length_singleton])
      | (refine (slG_snoc (enc := encEv) (l := w.ev) (k := 6) (n := w.ev.length) (x := evOf i t (26, a, b, c)) rfl rfl _ ?_ _ (by assumption)).symm; have hq := ‹_ < (evW w _).ev.length›; have hq : _ < (w.ev ++ [_]).length := hq; rw [List.length_append, List.length_singleton] at hq; exact hq)
      | trace_state
  · exact absurd rfl he
  · have he : ¬ (3) = 0 := by decide
    have e1 : sDoBad.panics ⟨w, i, t, (27, a, b, c)⟩ = some (chF (3)) := rfl
    show bodyK Tryz.prog _ _ _ _ sDoBad _
    unfold bodyK panE
    rw [e1]
    clear e1
    repeat' (first | exact @id (emp _ = true) | (intro h; first | exact Bool.noConfusion h | (simp only [Qn] at h) | skip) | ((conv => whnf) <;> (first | exact trivial | apply Qa | apply And.intro | exact absurd (by assumption) he | apply RegP.pan | apply CallP.inr | apply Qb | apply Qc | apply Qd | apply Qe | apply Qf | apply Qg | apply Qh | apply Qi | exact QA | exact QP | refine QG ?_ | apply Qj | apply Qk | apply Ql | apply Qm | apply Qo | apply Qp | apply Qw | apply Qv | apply Qu | apply Qt | apply Qs | apply Qr | apply Qq | apply Qx | apply wrapS | apply Qy | (with_reducible exact lenNil) | apply Eq.refl)) | ((with_reducible first | apply Y1 | apply Y2 | apply Y3 | show blkEq _ _ _); conv => whnf))
    all_goals first
      | omega
      | exact hpc
      | exact hpc0
      | exact hs1
      | exact hs2 _
      | exact ht1
      | exact ht2
      | exact he
      | exact he.symm
      | exact (hr (by omega)).1.1
      | exact (hr (by omega)).1.2
      | exact (hr (by omega)).2.1
      | exact (hr (by omega)).2.2
      | exact (hr2 (by omega)).1
      | exact (hr2 (by omega)).2
      | exact trivial
      | exact hev
      | exact hn.1
      | exact hn.2
      | exact absurd he (by assumption)
      | exact absurd (by assumption) he
      | (show w.ev.length + 1 ≤ 9223372036854775807; omega)
      | (show (w.ev.length + 1) * 48 ≤ _; omega)
      | (show (w.ev ++ [_]).length = _; rw [List.length_append, List.length_singleton])
      | (refine (slG_snoc (enc := encEv) (l := w.ev) (k := 6) (n := w.ev.length) (x := evOf i t (26, a, b, c)) rfl rfl _ ?_ _ (by assumption)).symm; have hq := ‹_ < (evW w _).ev.length›; have hq : _ < (w.ev ++ [_]).length := hq; rw [List.length_append, List.length_singleton] at hq; exact hq)
      | trace_state
end Go.Eng
