/- StepApart, walked. -/
import Derived.Test.YtgahcoccodhkmaaGreatStAl
set_option linter.unusedVariables false
set_option linter.unusedSimpArgs false
namespace Go.Eng
open Go Go.Proofs

structure Ap (v : Wd) (i : Int) (N : Wd) : Prop where
  a : Wok v
  b : Wok N
  k : Keeps v i N
theorem Ap.evlen {v N : Wd} {i : Int} (h : Ap v i N) : v.ev.length ≤ N.ev.length ∧ N.ev.length ≤ v.ev.length + 1 := by
  obtain ⟨e, he, hl⟩ := h.k.ev
  rw [he, List.length_append]; omega
theorem Ap.evat {v N : Wd} {i : Int} (h : Ap v i N) {j t : Nat} (hj : j < v.ev.length) : slG encEv v.ev j t = slG encEv N.ev (Int.toNat 0 + j) t := by
  obtain ⟨e, he, hl⟩ := h.k.ev
  show slG encEv v.ev j t = slG encEv N.ev (0 + j) t
  have e1 : (v.ev ++ e).getD j default = v.ev.getD j default := by
    rw [List.getD_eq_getElem?_getD, List.getD_eq_getElem?_getD, List.getElem?_append_left hj]
  rw [Nat.zero_add, he]
  unfold slG
  rw [e1]
theorem thEq_same (t : Th) : thEq t t = true := decide_eq_true rfl
def Lc1 : List (Nat × FSpec) := [(10, sAlive8), (8, sWorld8), (9, sStepA), (12, sRightT), (11, sRRightT), (13, sThSame), (14, sEvsT), (15, sCode5T)]
theorem Lc1_ok : GOK Tryz.prog (tab Lc1) := gok_cons alive8_ok (gok_cons world8_ok (gok_cons stepA_ok (gok_cons sRightT_ok (gok_cons sRRightT_ok (gok_cons thSame_ok (gok_cons sEvsT_ok (gok_cons sCode5T_ok (gok_nil _))))))))
def sLApart : FSpec := spec (List Ins × List Int × List Int × List Int × Int × List Act × Int) (fun (code, st, ws, ts, d, acts, i) => [.c (codeS code), .c (intsS st), .c (intsS ws), .c (intsS ts), .i d, .c (actsS acts), .i i]) (fun _ => True) fun _ => .b true
set_option maxHeartbeats 4000000 in
set_option maxRecDepth 100000 in
theorem lapart_ok : Meets Tryz.prog 3 sLApart := by
  refine meets_plain Lc1_ok rfl [2, 3] (fn := Tryz.f3) rfl rfl rfl (by decide) fun ⟨code, st, ws, ts, d, acts, i⟩ _ => ?_
  have hwk := world_kept code st ws ts d acts
  (conv => whnf)
  apply CutP.up (G := Wd) (fun v => worldR v = true ∧ v.ev.length ≤ 80) [6, 15] (fun _ => [(15, .s (.c (.ptr 0 0)))]) (fun v => [(0, .row 33 (wdC true v))]) 1
  apply And.intro
  · repeat' (first | exact @id (emp _ = true) | (intro h; first | exact Bool.noConfusion h | (simp only [Qn] at h) | skip) | ((conv => whnf) <;> (first | exact trivial | apply Qa | apply And.intro | (refine CutE.at (A := Wd) (worldF code st ws ts d acts) ?_) | (refine CutE.at (code, st, ws, ts, d, acts) ?_) | apply Qb | apply Qc | apply Qd | apply Qe | apply Qf | apply Qg | apply Qh | apply Qi | exact QA | exact QP | refine QG ?_ | apply Qj | apply Qk | apply Ql | apply Qm | apply Qo | apply Qp | apply Qw | apply Qv | apply Qu | apply Qt | apply Qs | apply Qr | apply Qq | apply Qx | apply wrapS | apply Qy | (with_reducible exact lenNil) | apply Eq.refl)) | ((with_reducible first | apply Y1 | apply Y2 | apply Y3 | show blkEq _ _ _); conv => whnf))
    all_goals first
      | exact hwk
      | exact hwk.1
      | exact hwk.2
      | trace_state
  clear hwk
  intro v hv
  have hv : worldR v = true ∧ v.ev.length ≤ 80 := hv
  have hk : Wok v := ⟨hv.1, by omega⟩
  have hlv := world_len hv.1
  cases hh : hasW v i with
  | false =>
    have hO : Out8 v i := ⟨hk, hh⟩
    (conv => whnf)
    apply CutP.upZ (G := Unit) (fun _ => True) [6, 15, 16, 17] (fun _ => [(15, .s (.c (.ptr 0 0))), (16, .s (.c (.ptr 1 0))), (17, .s (.c (.i 3)))]) (fun _ => [(0, .row 33 (wdC true v)), (1, .row 33 (wdC true wd0))]) 2
    apply And.intro
    · repeat' (first | exact @id (emp _ = true) | (intro h; first | exact Bool.noConfusion h | (simp only [Qn] at h) | skip) | ((conv => whnf) <;> (first | exact trivial | apply Qa | apply And.intro | (refine CutE.at (A := Unit) () ?_) | (apply CallP.inr; apply CallP.inr; apply CallP.nb; apply CutE.gh (n := 8) ((v, i))) | apply Qb | apply Qc | apply Qd | apply Qe | apply Qf | apply Qg | apply Qh | apply Qi | exact QA | exact QP | refine QG ?_ | apply Qj | apply Qk | apply Ql | apply Qm | apply Qo | apply Qp | apply Qw | apply Qv | apply Qu | apply Qt | apply Qs | apply Qr | apply Qq | apply Qx | apply wrapS | apply Qy | (with_reducible exact lenNil) | apply Eq.refl)) | ((with_reducible first | apply Y1 | apply Y2 | apply Y3 | show blkEq _ _ _); conv => whnf))
      all_goals first
        | exact hO
        | exact hO.k
        | exact hh
        | trace_state
    · intro _ _
      repeat' (first | exact @id (emp _ = true) | (intro h; first | exact Bool.noConfusion h | (simp only [Qn] at h) | skip) | ((conv => whnf) <;> (first | exact trivial | apply Qa | apply And.intro | apply Qb | apply Qc | apply Qd | apply Qe | apply Qf | apply Qg | apply Qh | apply Qi | exact QA | exact QP | refine QG ?_ | apply Qj | apply Qk | apply Ql | apply Qm | apply Qo | apply Qp | apply Qw | apply Qv | apply Qu | apply Qt | apply Qs | apply Qr | apply Qq | apply Qx | apply wrapS | apply Qy | (with_reducible exact lenNil) | apply Eq.refl)) | ((with_reducible first | apply Y1 | apply Y2 | apply Y3 | show blkEq _ _ _); conv => whnf))
      all_goals trace_state
  | true =>
    have hI : In8 v i := ⟨hk, hh⟩
    have hi := hasW_iff.1 hh
    by_cases hc : canF v i = true
    rotate_left 1
    · have hc : canF v i = false := by simpa using hc
      (conv => whnf)
      apply CutP.upZ (G := Unit) (fun _ => True) [6, 15, 16, 17] (fun _ => [(15, .s (.c (.ptr 0 0))), (16, .s (.c (.ptr 1 0))), (17, .s (.c (.i 9)))]) (fun _ => [(0, .row 33 (wdC true v)), (1, .row 33 (wdC true wd0))]) 2
      apply And.intro
      · repeat' (first | exact @id (emp _ = true) | (intro h; first | exact Bool.noConfusion h | (simp only [Qn] at h) | skip) | ((conv => whnf) <;> (first | exact trivial | apply Qa | apply And.intro | (refine CutE.at (A := Unit) () ?_) | (apply CallP.inr; apply CallP.inl; apply CallP.nb; apply CutE.gh (n := 7) ((v, i))) | apply Qb | apply Qc | apply Qd | apply Qe | apply Qf | apply Qg | apply Qh | apply Qi | exact QA | exact QP | refine QG ?_ | apply Qj | apply Qk | apply Ql | apply Qm | apply Qo | apply Qp | apply Qw | apply Qv | apply Qu | apply Qt | apply Qs | apply Qr | apply Qq | apply Qx | apply wrapS | apply Qy | (with_reducible exact lenNil) | apply Eq.refl)) | ((with_reducible first | apply Y1 | apply Y2 | apply Y3 | show blkEq _ _ _); conv => whnf))
        all_goals first
          | exact ⟨hI, hc⟩
          | exact hI
          | exact hc
          | trace_state
      · intro _ _
        repeat' (first | exact @id (emp _ = true) | (intro h; first | exact Bool.noConfusion h | (simp only [Qn] at h) | skip) | ((conv => whnf) <;> (first | exact trivial | apply Qa | apply And.intro | apply Qb | apply Qc | apply Qd | apply Qe | apply Qf | apply Qg | apply Qh | apply Qi | exact QA | exact QP | refine QG ?_ | apply Qj | apply Qk | apply Ql | apply Qm | apply Qo | apply Qp | apply Qw | apply Qv | apply Qu | apply Qt | apply Qs | apply Qr | apply Qq | apply Qx | apply wrapS | apply Qy | (with_reducible exact lenNil) | apply Eq.refl)) | ((with_reducible first | apply Y1 | apply Y2 | apply Y3 | show blkEq _ _ _); conv => whnf))
        all_goals trace_state

    have hA : Ap v i (stepF v i) := by
      obtain ⟨k1, k2⟩ := stepF_wok hk hh hc
      exact ⟨hk, ⟨k1, by omega⟩, step_keeps hI.o (can_st hc)⟩
    (conv => whnf)
    apply CutP.upZ (G := Wd) (fun N => Ap v i N) [6, 15, 16, 17] (fun _ => [(15, .s (.c (.ptr 0 0))), (16, .s (.c (.ptr 1 0))), (17, .s (.c (.i 0)))]) (fun N => [(0, .row 33 (wdC true v)), (1, .row 33 (wdC true N))]) 2
    apply And.intro
    · repeat' (first | exact @id (emp _ = true) | (intro h; first | exact Bool.noConfusion h | (simp only [Qn] at h) | skip) | ((conv => whnf) <;> (first | exact trivial | apply Qa | apply And.intro | (refine CutE.at (A := Wd) (stepF v i) ?_) | (apply CallP.inl; apply CallP.nb; apply CutE.gh (n := 6) ((v, i))) | apply Qb | apply Qc | apply Qd | apply Qe | apply Qf | apply Qg | apply Qh | apply Qi | exact QA | exact QP | refine QG ?_ | apply Qj | apply Qk | apply Ql | apply Qm | apply Qo | apply Qp | apply Qw | apply Qv | apply Qu | apply Qt | apply Qs | apply Qr | apply Qq | apply Qx | apply wrapS | apply Qy | (with_reducible exact lenNil) | apply Eq.refl)) | ((with_reducible first | apply Y1 | apply Y2 | apply Y3 | show blkEq _ _ _); conv => whnf))
      all_goals first
        | exact hA
        | exact ⟨hI, hc⟩
        | exact hI
        | exact hc
        | trace_state
    clear hA hc
    intro N hA
    have hA : Ap v i N := hA
    have hkn := hA.k.n
    have hkl := hA.k.ln
    have hcd := hA.k.code
    have hev := hA.evlen
    have hw : IntKind.i64.wrap ((v.ev.length : Int) + 1) = (v.ev.length : Int) + 1 := wrap_i64 (by omega)
    repeat' (first | exact @id (emp _ = true) | (intro h; first | exact Bool.noConfusion h | (simp only [Qn] at h) | skip) | ((conv => whnf) <;> (first | exact trivial | apply Qa | apply And.intro | (apply CallP.nb; apply CutE.gh (n := 18) (true, N)) | (apply CallP.nb; apply CutE.gh (n := 17) (true, N)) | apply Qb | apply Qc | apply Qd | apply Qe | apply Qf | apply Qg | apply Qh | apply Qi | exact QA | exact QP | refine QG ?_ | apply Qj | apply Qk | apply Ql | apply Qm | apply Qo | apply Qp | apply Qw | apply Qv | apply Qu | apply Qt | apply Qs | apply Qr | apply Qq | apply Qx | apply wrapS | apply Qy | (with_reducible exact lenNil) | apply Eq.refl)) | ((with_reducible first | apply Y1 | apply Y2 | apply Y3 | show blkEq _ _ _); conv => whnf))
    all_goals try first
      | exact hA.b
      | omega
      | (exfalso; omega)
      | (rw [hw] at *; omega)
    apply LoopP.up (G := Nat) (fun k => k ≤ v.th.length) [6, 15, 16, 85, 86] (fun k => [(86, .i k)]) (fun _ => []) 2 (fun k => v.th.length - k)
    apply And.intro
    · refine CutE.at 0 ?_
      repeat' (first | exact @id (emp _ = true) | (intro h; first | exact Bool.noConfusion h | (simp only [Qn] at h) | skip) | ((conv => whnf) <;> (first | exact trivial | apply Qa | apply And.intro | apply EntP.id 2 | apply Qb | apply Qc | apply Qd | apply Qe | apply Qf | apply Qg | apply Qh | apply Qi | exact QA | exact QP | refine QG ?_ | apply Qj | apply Qk | apply Ql | apply Qm | apply Qo | apply Qp | apply Qw | apply Qv | apply Qu | apply Qt | apply Qs | apply Qr | apply Qq | apply Qx | apply wrapS | apply Qy | (with_reducible exact lenNil) | apply Eq.refl)) | ((with_reducible first | apply Y1 | apply Y2 | apply Y3 | show blkEq _ _ _); conv => whnf))
      all_goals first
        | omega
        | trace_state
    intro k hkk
    have hkk : k ≤ v.th.length := hkk
    have e0 : (k : Int).toNat = k := Int.toNat_natCast k
    have hcl : v.code.length ≤ 1000000 := hA.a.y.c
    by_cases hki : (k : Int) = i
    · repeat' (first | exact @id (emp _ = true) | (intro h; first | exact Bool.noConfusion h | (simp only [Qn] at h) | skip) | ((conv => whnf) <;> (first | exact trivial | apply Qa | apply And.intro | exact absurd hki (by assumption) | (apply CallP.nb; apply CutE.gh (n := 20) v.ev) | (apply CallP.nb; apply CutE.gh (n := 21) v.code) | (refine CutE.at (A := Nat) (k + 1) ?_) | apply EntP.id 2 | apply Qb | apply Qc | apply Qd | apply Qe | apply Qf | apply Qg | apply Qh | apply Qi | exact QA | exact QP | refine QG ?_ | apply Qj | apply Qk | apply Ql | apply Qm | apply Qo | apply Qp | apply Qw | apply Qv | apply Qu | apply Qt | apply Qs | apply Qr | apply Qq | apply Qx | apply wrapS | apply Qy | (with_reducible exact lenNil) | apply Eq.refl)) | ((with_reducible first | apply Y1 | apply Y2 | apply Y3 | show blkEq _ _ _); conv => whnf))
      all_goals first
        | omega
        | (show v.th.length - (k + 1) < v.th.length - k; omega)
        | (show k + 1 ≤ v.th.length; omega)
        | exact hcl
        | (show v.ev.length ≤ 1000000; omega)
        | exact hA.evat (by assumption)
        | (rw [hcd])
        | trace_state
    have hth := hA.k.th k hki
    have hl := hA.k.l k hki
    have hsv := (hA.a.s).th k
    have hsn := (hA.b.s).th k
    have heq : thEq (N.th.getD (k : Int).toNat default) (v.th.getD (k : Int).toNat default) = true := by rw [e0, hth]; exact thEq_same _
    have hl' : N.l.getD (k : Int).toNat default = v.l.getD (k : Int).toNat default := by rw [e0]; exact hl
    have hsb := hA.a.s.l.2 k
    repeat' (first | exact @id (emp _ = true) | (intro h; first | exact Bool.noConfusion h | (simp only [Qn] at h) | skip) | ((conv => whnf) <;> (first | exact trivial | apply Qa | apply And.intro | exact absurd (by assumption) hki | (exfalso; exact Bool.noConfusion (heq.symm.trans (by assumption))) | (apply CallP.nb; apply CutE.gh (n := 20) v.ev) | (apply CallP.nb; apply CutE.gh (n := 21) v.code) | (refine CutE.at (A := Th × Th) (N.th.getD (k : Int).toNat default, v.th.getD (k : Int).toNat default) ?_) | (refine CutE.at (A := Nat) (k + 1) ?_) | apply EntP.id 2 | apply Qb | apply Qc | apply Qd | apply Qe | apply Qf | apply Qg | apply Qh | apply Qi | exact QA | exact QP | refine QG ?_ | apply Qj | apply Qk | apply Ql | apply Qm | apply Qo | apply Qp | apply Qw | apply Qv | apply Qu | apply Qt | apply Qs | apply Qr | apply Qq | apply Qx | apply wrapS | apply Qy | (with_reducible exact lenNil) | apply Eq.refl)) | ((with_reducible first | apply Y1 | apply Y2 | apply Y3 | show blkEq _ _ _); conv => whnf))
    all_goals try first
      | omega
      | exact hsv.1
      | exact hsv.2
      | exact hsn.1
      | exact hsn.2
      | (rw [e0]; exact hsv.1)
      | (rw [e0]; exact hsv.2)
      | (rw [e0]; exact hsn.1)
      | (rw [e0]; exact hsn.2)
      | (exfalso; exact Bool.noConfusion (heq.symm.trans (by assumption)))
      | (exfalso; apply h; rw [hl'])
      | (show v.th.length - (k + 1) < v.th.length - k; omega)
      | (show k + 1 ≤ v.th.length; omega)
      | exact hcl
      | (show v.ev.length ≤ 1000000; omega)
      | exact hA.evat (by assumption)
      | (rw [hcd])
    have hbl : (v.l.getD (k : Int).toNat default).length ≤ 1000000 := by rw [e0]; exact hsb
    generalize hB : v.l.getD (k : Int).toNat default = B at *
    apply LoopP.up (G := Nat × Unit) (fun (j, _) => j ≤ B.length) [6, 15, 16, 18, 85, 86, 126, 127, 128] (fun (j, _) => [(128, .i j), (126, .s (.c (putsS B))), (127, .s (.c (.i B.length)))]) (fun _ => []) 2 (fun (j, _) => B.length - j)
    apply And.intro
    · refine CutE.at (A := Nat × Unit) (0, ()) ?_
      repeat' (first | exact @id (emp _ = true) | (intro h; first | exact Bool.noConfusion h | (simp only [Qn] at h) | skip) | ((conv => whnf) <;> (first | exact trivial | apply Qa | apply And.intro | apply EntP.id 2 | apply Qb | apply Qc | apply Qd | apply Qe | apply Qf | apply Qg | apply Qh | apply Qi | exact QA | exact QP | refine QG ?_ | apply Qj | apply Qk | apply Ql | apply Qm | apply Qo | apply Qp | apply Qw | apply Qv | apply Qu | apply Qt | apply Qs | apply Qr | apply Qq | apply Qx | apply wrapS | apply Qy | (with_reducible exact lenNil) | apply Eq.refl)) | ((with_reducible first | apply Y1 | apply Y2 | apply Y3 | show blkEq _ _ _); conv => whnf))
      all_goals first
        | omega
        | rfl
        | (rw [hB])
        | trace_state
    rintro ⟨j, ⟨⟩⟩ hj
    have hj : j ≤ B.length := hj
    repeat' (first | exact @id (emp _ = true) | (intro h; first | exact Bool.noConfusion h | (simp only [Qn] at h) | skip) | ((conv => whnf) <;> (first | exact trivial | apply Qa | apply And.intro | (refine CutE.at (A := Nat × Unit) (j + 1, ()) ?_) | (refine CutE.at (A := Nat) (k + 1) ?_) | apply EntP.id 2 | apply Qb | apply Qc | apply Qd | apply Qe | apply Qf | apply Qg | apply Qh | apply Qi | exact QA | exact QP | refine QG ?_ | apply Qj | apply Qk | apply Ql | apply Qm | apply Qo | apply Qp | apply Qw | apply Qv | apply Qu | apply Qt | apply Qs | apply Qr | apply Qq | apply Qx | apply wrapS | apply Qy | (with_reducible exact lenNil) | apply Eq.refl)) | ((with_reducible first | apply Y1 | apply Y2 | apply Y3 | show blkEq _ _ _); conv => whnf))
    all_goals first
      | omega
      | (show B.length - (j + 1) < B.length - j; omega)
      | (show j + 1 ≤ B.length; omega)
      | (show v.th.length - (k + 1) < v.th.length - k; omega)
      | (show k + 1 ≤ v.th.length; omega)
      | (rw [hl']; omega)
      | (exfalso; apply h; rw [hl']; exact ⟨rfl, rfl⟩)
      | (exfalso; apply h; rw [hl'])
      | trace_state
end Go.Eng
