/- A part of the walks, and of the machine that proves them (LtOc). -/
import Derived.Test.YtgahcoccodhkmaaDoorLtI
import Derived.Test.YtgahcoccodhkmaaDoorTsB
import Derived.Test.YtgahcoccodhkmaaDoorMeB
set_option linter.unusedVariables false
set_option linter.unusedSimpArgs false
namespace Go.Eng
open Go Go.Proofs
theorem setR_rep (w : Nat) : setR 1 (List.replicate w 0) 0 w = List.replicate w 1 := by
  refine List.ext_getElem? fun i => ?_
  have hl := setR_len (tag := 1) w (List.replicate w 0) 0
  rw [List.length_replicate] at hl
  have h := setR_at (tag := 1) w (List.replicate w 0) 0 i (by rw [List.length_replicate]; omega)
  by_cases hi : i < w
  · rw [if_pos (by omega), List.getD_eq_getElem?_getD, List.getElem?_eq_getElem (by omega)] at h
    rw [List.getElem?_eq_getElem (by omega), List.getElem?_replicate, if_pos hi]
    exact congrArg some h
  · rw [List.getElem?_eq_none (by omega), List.getElem?_eq_none (by rw [List.length_replicate]; omega)]
theorem newF1 {w : Int} (h : 1 ≤ w ∧ w ≤ 3) : newF w = ((List.replicate w.toNat 0, List.replicate w.toNat 0), 0) := by
  unfold newF
  rw [if_neg (by omega)]
theorem markF1 {w : Int} (h : 1 ≤ w ∧ w ≤ 3) : markF (List.replicate w.toNat 0) (List.replicate w.toNat 0) 0 w 1 = ((List.replicate w.toNat 0, List.replicate w.toNat 1), 0) := by
  rw [markF_ok (tag := 1) ⟨?_, .inl rfl, h.1, Int.le_refl _, ?_, ?_, fun i hi => ?_⟩]
  · show ((_, setR 1 _ 0 w.toNat), 0) = _
    rw [setR_rep]
  · refine memR_iff.2 ⟨?_, ?_, rfl, fun i hi => ?_⟩
    · rw [List.length_replicate]; omega
    · rw [List.length_replicate]; omega
    · rw [List.length_replicate] at hi
      rw [List.getD_eq_getElem?_getD, List.getElem?_replicate, if_pos hi]
      decide
  · rw [List.length_replicate]; omega
  · rfl
  · rw [List.getD_eq_getElem?_getD, List.getElem?_replicate]
    split <;> decide
theorem newT1 {w d : Int} {n : Nat} (h : 1 ≤ w ∧ w ≤ 3) (hd : 0 ≤ d ∧ d ≤ 3) (hn : 1 ≤ n ∧ n ≤ 3) : newT (List.replicate w.toNat 0) (List.replicate w.toNat 1) n d = ((List.replicate w.toNat 0, List.replicate w.toNat 1, d, List.replicate n []), 0) := by
  unfold newT
  rw [if_pos (memR1 (w := w.toNat) (by omega) List.length_replicate), if_pos (sizesF_iff.2 (by omega))]
  rfl
theorem raw_ini {w d : Int} {n : Nat} (hw : 0 ≤ w) (hd : 0 ≤ d) : RawOf w.toNat d.toNat (ini w.toNat n) (List.replicate w.toNat 0) (List.replicate w.toNat 1) d (List.replicate n []) 0 0 0 [] [] [] := by
  have key : ∀ j, (List.replicate n (([], [], 0) : Thr)).getD j ([], [], 0) = ([], [], 0) := fun j => by
    rw [List.getD_eq_getElem?_getD, List.getElem?_replicate]
    split <;> rfl
  have ha : ∀ j, atI (ini w.toNat n) j = 0 := fun j => by
    unfold atI
    show ((List.replicate n (([], [], 0) : Thr)).getD j ([], [], 0)).2.2 = 0
    rw [key]
  have hn : ∀ j, ntI (ini w.toNat n) j = [] := fun j => by
    unfold ntI
    show ((List.replicate n (([], [], 0) : Thr)).getD j ([], [], 0)).2.1 = []
    rw [key]
  refine ⟨rfl, rfl, by omega, ?_, (ha 0).symm, (ha 1).symm, (ha 2).symm, (hn 0).symm, (hn 1).symm, (hn 2).symm⟩
  show _ = (List.replicate n (([], [], 0) : Thr)).map _
  rw [List.map_replicate]
def errF (w d : Int) (ms : List (List Mv)) : Int := if rightL w d ms = true then 0 else 1
noncomputable def sOut : FSpec := spec (Int × Int × List (List Mv)) (fun (w, d, ms) => [.agg (litC w d ms)]) (fun (_, _, ms) => Short ms) fun (w, d, ms) => .tup [.c (slC 1 rowE (outF w d ms)), .c (.i (errF w d ms))]
noncomputable def K4 (N : Nat) : List (Nat × FSpec) := (17, sFrom N) :: (22, sSort) :: (24, sComp) :: (13, sRight) :: (14, sNew) :: (15, sMark) :: [(16, sTNew)]
theorem K4_ok (N : Nat) : GOK Tryd.prog (tab (K4 N)) := gok_cons (from_ok N) (gok_cons sort_ok (gok_cons comp_ok (gok_cons right_ok (gok_cons new_ok (gok_cons mark_ok (gok_cons tnew_ok (gok_nil _)))))))
set_option maxHeartbeats 8000000 in
set_option maxRecDepth 100000 in
theorem out_okN (N : Nat) (hN : N = 13) : Meets Tryd.prog 8 sOut := by
  refine meets_plain (K4_ok N) rfl [6, 10, 11, 12] (fn := Tryd.f8) rfl rfl rfl (by decide) fun ⟨w, d, ms⟩ hs => ?_
  have hs : Short ms := hs
  repeat' (first | exact @id (emp _ = true) | (intro h; first | exact Bool.noConfusion h | (simp only [Qn] at h) | skip) | ((conv => whnf) <;> (first | exact trivial | apply Qa | apply And.intro | apply Qb | apply Qc | apply Qd | apply Qe | apply Qf | apply Qg | apply Qh | apply Qi | exact QA | exact QP | refine QG ?_ | apply Qj | apply Qk | apply Ql | apply Qm | apply Qo | apply Qp | apply Qw | apply Qv | apply Qu | apply Qt | apply Qs | apply Qr | apply Qq | apply Qx | apply wrapS | apply Qy | (with_reducible exact lenNil) | apply Eq.refl)) | ((with_reducible first | apply Y1 | apply Y2 | apply Y3 | show blkEq _ _ _); conv => whnf))
  all_goals try first
    | exact hs _
    | (unfold outF errF; rw [if_neg (by rw [‹rightL w d ms = false›]; exact Bool.noConfusion)]; rfl)
    | (unfold errF; rw [if_neg (by rw [‹rightL w d ms = false›]; exact Bool.noConfusion)])
    | (unfold outF; rw [if_neg (by rw [‹rightL w d ms = false›]; exact Bool.noConfusion)]; rfl)
  have hr : rightL w d ms = true := by assumption
  obtain ⟨⟨hw, hd, hn⟩, h6, hm⟩ := right_iff hr
  have e1 := newF1 hw
  have e2 := markF1 hw
  have e3 := newT1 hw hd hn
  have hF := fit_ini hr
  have hmu := mu_ini hr
  have hO : outF w d ms = compact (sortL (rawO w d ms)) := by unfold outF; rw [if_pos hr]
  have hraw : rawO w d ms = (D d.toNat ms N (ini w.toNat ms.length) ([], [])).2 := by subst hN; rfl
  have hbn : Bn N ≤ 2612138803 := by subst hN; exact Nat.le_of_eq bn13
  have hpos := rawO_pos hr
  have hr5 : Rows5 (rawO w d ms) := rows5 (by have := rawO_len hr; omega) (rawO_rows hr)
  have hr6 : Rows5 (sortL (rawO w d ms)) := rows5 (by rw [(sortL_perm _).length_eq]; have := rawO_len hr; omega) fun r h => rawO_rows hr r ((sortL_perm _).mem_iff.1 h)
  have hpre : FromPre N w.toNat d.toNat ms (ini w.toNat ms.length) [] [] (List.replicate w.toNat 0) (List.replicate w.toNat 1) d (List.replicate ms.length []) 0 0 0 [] [] [] :=
    ⟨hF, raw_ini (by omega) (by omega), fun t ht => absurd ht (by simp), by rw [hN]; exact hmu, by show 0 + Bn N ≤ _; omega⟩
  rw [hraw] at hO hpos hr5 hr6
  have herr : errF w d ms = 0 := by unfold errF; rw [if_pos hr]
  clear hraw hbn hmu hF
  conv => whnf
  apply CutP.to (G := Unit) (fun _ => True) [1, 6] (fun _ => [(6, .s (.c (.ptr 1 0)))]) (fun _ => [(0, .row 24 (litC w d ms)), (1, .row 50 (tsoC (List.replicate w.toNat 0) (List.replicate w.toNat 1) d (List.replicate ms.length [])))]) 2
  apply And.intro
  · have eT : newT (markF (newF w).1.1 (newF w).1.2 0 w 1).1.1 (markF (newF w).1.1 (newF w).1.2 0 w 1).1.2 ms.length d = ((List.replicate w.toNat 0, List.replicate w.toNat 1, d, List.replicate ms.length []), 0) := by
      rw [e1]
      show newT (markF (List.replicate w.toNat 0) (List.replicate w.toNat 0) 0 w 1).1.1 (markF (List.replicate w.toNat 0) (List.replicate w.toNat 0) 0 w 1).1.2 ms.length d = _
      rw [e2]
      exact e3
    repeat' (first | exact @id (emp _ = true) | (intro h; first | exact Bool.noConfusion h | (simp only [Qn] at h) | skip) | ((conv => whnf) <;> (first | exact trivial | apply Qa | apply And.intro | apply Qb | apply Qc | apply Qd | apply Qe | apply Qf | apply Qg | apply Qh | apply Qi | exact QA | exact QP | refine QG ?_ | apply Qj | apply Qk | apply Ql | apply Qm | apply Qo | apply Qp | apply Qw | apply Qv | apply Qu | apply Qt | apply Qs | apply Qr | apply Qq | apply Qx | apply wrapS | apply Qy | (with_reducible exact lenNil) | apply Eq.refl)) | ((with_reducible first | apply Y1 | apply Y2 | apply Y3 | show blkEq _ _ _); conv => whnf))
    all_goals (rw [eT] <;> rfl)
  rintro ⟨⟩ _
  clear e1 e2 e3
  repeat' (first | exact @id (emp _ = true) | (intro h; first | exact Bool.noConfusion h | (simp only [Qn] at h) | skip) | ((conv => whnf) <;> (first | exact trivial | apply Qa | apply And.intro | apply Qb | apply Qc | apply Qd | apply Qe | apply Qf | apply Qg | apply Qh | apply Qi | exact QA | exact QP | refine QG ?_ | apply Qj | apply Qk | apply Ql | apply Qm | apply Qo | apply Qp | apply Qw | apply Qv | apply Qu | apply Qt | apply Qs | apply Qr | apply Qq | apply Qx | apply wrapS | apply Qy | (with_reducible exact lenNil) | apply Eq.refl)) | ((with_reducible first | apply Y1 | apply Y2 | apply Y3 | show blkEq _ _ _); conv => whnf))
  apply CutP.to (G := Unit) (fun _ => True) [6, 9, 10] (fun _ => [(6, .s (.c (.ptr 6 0))), (9, .s (.c (.ptr 4 0))), (10, .s (.c (.ptr 3 0)))]) (fun _ => [(0, .row 53 [.mp 1]), (1, .smap (metF [])), (2, .row 24 (litC w d ms)), (3, fromB), (4, .row 29 [.osl 5]), (5, .slc 36 1 0 (slG rowE [])), (6, .row 50 (tsoC (List.replicate w.toNat 0) (List.replicate w.toNat 1) d (List.replicate ms.length [])))]) 7
  apply And.intro
  · repeat' (first | exact @id (emp _ = true) | (intro h; first | exact Bool.noConfusion h | (simp only [Qn] at h) | skip) | ((conv => whnf) <;> (first | exact trivial | apply Qa | apply And.intro | refine EntP.at [⟨true, 4, 0, 36, 1⟩] [3, 2, 0, 5, 4, 6, 1] ?_ | apply Qb | apply Qc | apply Qd | apply Qe | apply Qf | apply Qg | apply Qh | apply Qi | exact QA | exact QP | refine QG ?_ | apply Qj | apply Qk | apply Ql | apply Qm | apply Qo | apply Qp | apply Qw | apply Qv | apply Qu | apply Qt | apply Qs | apply Qr | apply Qq | apply Qx | apply wrapS | apply Qy | (with_reducible exact lenNil) | apply Eq.refl)) | ((with_reducible first | apply Y1 | apply Y2 | apply Y3 | show blkEq _ _ _); conv => whnf))
    all_goals (rename_i i hi t; exact absurd hi (Nat.not_lt_zero _))
  rintro ⟨⟩ _
  generalize hRR : (D d.toNat ms N (ini w.toNat ms.length) ([], [])).2 = RR at hO hpos hr5 hr6
  (conv => whnf)
  apply CutP.to (G := Unit) (fun _ => True) [9] (fun _ => [(9, .s (.c (.ptr 0 0)))]) (fun _ => [(0, .row 29 [.osl 1]), (1, .slc 36 1 RR.length (slG rowE RR))]) 2
  apply And.intro
  · subst hRR
    repeat' (first | exact @id (emp _ = true) | (intro h; first | exact Bool.noConfusion h | (simp only [Qn] at h) | skip) | ((conv => whnf) <;> (first | exact trivial | apply Qa | apply And.intro | apply CallP.own6 | apply CutE.goS w.toNat d.toNat ms (ini w.toNat ms.length) [] [] | apply Qb | apply Qc | apply Qd | apply Qe | apply Qf | apply Qg | apply Qh | apply Qi | exact QA | exact QP | refine QG ?_ | apply Qj | apply Qk | apply Ql | apply Qm | apply Qo | apply Qp | apply Qw | apply Qv | apply Qu | apply Qt | apply Qs | apply Qr | apply Qq | apply Qx | apply wrapS | apply Qy | (with_reducible exact lenNil) | apply Eq.refl)) | ((with_reducible first | apply Y1 | apply Y2 | apply Y3 | show blkEq _ _ _); conv => whnf))
    all_goals first
      | omega
      | exact hpre
      | trace_state
  rintro ⟨⟩ _
  (conv => whnf)
  apply CutP.to (G := Unit) (fun _ => True) [9] (fun _ => []) (fun _ => [(0, .row 29 [.osl 1]), (1, .slc 36 1 (sortL RR).length (slG rowE (sortL RR)))]) 2
  apply And.intro
  · repeat' (first | exact @id (emp _ = true) | (intro h; first | exact Bool.noConfusion h | (simp only [Qn] at h) | skip) | ((conv => whnf) <;> (first | exact trivial | apply Qa | apply And.intro | apply Qb | apply Qc | apply Qd | apply Qe | apply Qf | apply Qg | apply Qh | apply Qi | exact QA | exact QP | refine QG ?_ | apply Qj | apply Qk | apply Ql | apply Qm | apply Qo | apply Qp | apply Qw | apply Qv | apply Qu | apply Qt | apply Qs | apply Qr | apply Qq | apply Qx | apply wrapS | apply Qy | (with_reducible exact lenNil) | apply Eq.refl)) | ((with_reducible first | apply Y1 | apply Y2 | apply Y3 | show blkEq _ _ _); conv => whnf))
    all_goals first
      | exact hpos
      | exact hr5.1
      | exact hr5.2 _
      | trace_state
  rintro ⟨⟩ _
  generalize sortL RR = SS at *
  repeat' (first | exact @id (emp _ = true) | (intro h; first | exact Bool.noConfusion h | (simp only [Qn] at h) | skip) | ((conv => whnf) <;> (first | exact trivial | apply Qa | apply And.intro | apply Qb | apply Qc | apply Qd | apply Qe | apply Qf | apply Qg | apply Qh | apply Qi | exact QA | exact QP | refine QG ?_ | apply Qj | apply Qk | apply Ql | apply Qm | apply Qo | apply Qp | apply Qw | apply Qv | apply Qu | apply Qt | apply Qs | apply Qr | apply Qq | apply Qx | apply wrapS | apply Qy | (with_reducible exact lenNil) | apply Eq.refl)) | ((with_reducible first | apply Y1 | apply Y2 | apply Y3 | show blkEq _ _ _); conv => whnf))
  all_goals first
    | exact hr6.1
    | exact hr6.2 _
    | exact congrArg List.length hO
    | (show _ = slG rowE (compact SS) _ _; rw [hO])
    | exact herr
    | trace_state
theorem out_ok : Meets Tryd.prog 8 sOut := out_okN 13 rfl
end Go.Eng
