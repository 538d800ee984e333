/- LitmusGrows, walked. -/
import Derived.Test.YtgahcoccodhkmaaDoorLtAa
set_option linter.unusedVariables false
set_option linter.unusedSimpArgs false
namespace Go.Eng
open Go Go.Proofs

noncomputable def KL : List (Nat × FSpec) := (7, sTest) :: (8, sOut) :: (12, sCan) :: (9, sAliveL) :: (11, sHasR) :: [(10, sRows)]
theorem KL_ok : GOK Tryd.prog (tab KL) := gok_cons test_ok (gok_cons out_ok (gok_cons can_ok (gok_cons aliveL_ok (gok_cons has_ok' (gok_cons rows_ok (gok_nil _))))))
theorem err_zero {w d : Int} {ms : List (List Mv)} (h : errF w d ms = 0) : rightL w d ms = true := by
  unfold errF at h
  split at h
  · assumption
  · cases h
theorem emp_ini (w n : Nat) : Emp (ini w n) := fun i t h => by rw [ini_thr h]
theorem right_more {w d : Int} {ms : List (List Mv)} (h : rightL w d ms = true) (hd : 0 ≤ d ∧ d ≤ 2) : rightL w (d + 1) ms = true := by
  unfold rightL at *
  simp only [Bool.and_eq_true, decide_eq_true_eq] at *
  exact ⟨⟨h.1.1, by omega, h.1.2.2⟩, h.2⟩
theorem grows_in {w d : Int} {ms : List (List Mv)} (h : rightL w d ms = true) (hd : 0 ≤ d ∧ d ≤ 2) : errF w (d + 1) ms = 0 ∧ ∀ o ∈ outF w d ms, o ∈ outF w (d + 1) ms := by
  have h2 := right_more h hd
  refine ⟨by unfold errF; rw [if_pos h2], fun o ho => (outF_mem h2 o).2 ?_⟩
  have e : (d + 1).toNat = d.toNat + 1 := by omega
  rw [e]
  exact grow_out (emp_ini _ _) ((outF_mem h o).1 ho)
noncomputable def sGrows : FSpec := spec (Int × Int × List (List Mv)) (fun (w, d, ms) => [.i w, .i d, .c (slC 1 mvsE ms)]) (fun _ => True) fun _ => .b true
set_option maxHeartbeats 8000000 in
set_option maxRecDepth 100000 in
theorem grows_ok : Meets Tryd.prog 5 sGrows := by
  refine meets_plain KL_ok rfl [3] (fn := Tryd.f5) rfl rfl rfl (by decide) fun ⟨w, d, ms⟩ _ => ?_
  obtain ⟨T, hT⟩ : ∃ T, T = cutT ms := ⟨_, rfl⟩
  have hsh : Short T := by rw [hT]; exact cutT_short ms
  obtain ⟨L, hL⟩ : ∃ L, L = outF w d T := ⟨_, rfl⟩
  obtain ⟨E, hE⟩ : ∃ E, E = errF w d T := ⟨_, rfl⟩
  have hLn := (outF_rows w d T).1
  rw [← hL] at hLn
  repeat' (first | exact @id (emp _ = true) | (intro h; first | exact Bool.noConfusion h | (simp only [Qn] at h) | skip) | ((conv => whnf) <;> (first | exact trivial | apply Qa | apply And.intro | apply Qb | apply Qc | apply Qd | apply Qe | apply Qf | apply Qg | apply Qh | apply Qi | exact QA | exact QP | refine QG ?_ | apply Qj | apply Qk | apply Ql | apply Qm | apply Qo | apply Qp | apply Qw | apply Qv | apply Qu | apply Qt | apply Qs | apply Qr | apply Qq | apply Qx | apply wrapS | apply Qy | (with_reducible exact lenNil) | apply Eq.refl)) | ((with_reducible first | apply Y1 | apply Y2 | apply Y3 | show blkEq _ _ _); conv => whnf))
  (conv => whnf)
  apply CutP.to (G := Unit) (fun _ => True) [1, 7, 8, 9] (fun _ => [(7, .s (.c (.ptr 0 0))), (8, .s (.c (slC 1 rowE L))), (9, .i E)]) (fun _ => [(0, .row 24 (litC w d T))]) 1
  apply And.intro
  · subst hL hE hT
    repeat' (first | exact @id (emp _ = true) | (intro h; first | exact Bool.noConfusion h | (simp only [Qn] at h) | skip) | ((conv => whnf) <;> (first | exact trivial | apply Qa | apply And.intro | apply Qb | apply Qc | apply Qd | apply Qe | apply Qf | apply Qg | apply Qh | apply Qi | exact QA | exact QP | refine QG ?_ | apply Qj | apply Qk | apply Ql | apply Qm | apply Qo | apply Qp | apply Qw | apply Qv | apply Qu | apply Qt | apply Qs | apply Qr | apply Qq | apply Qx | apply wrapS | apply Qy | (with_reducible exact lenNil) | apply Eq.refl)) | ((with_reducible first | apply Y1 | apply Y2 | apply Y3 | show blkEq _ _ _); conv => whnf))
    all_goals first
      | exact hsh _
      | trace_state
  rintro ⟨⟩ _
  repeat' (first | exact @id (emp _ = true) | (intro h; first | exact Bool.noConfusion h | (simp only [Qn] at h) | skip) | ((conv => whnf) <;> (first | exact trivial | apply Qa | apply And.intro | apply Qb | apply Qc | apply Qd | apply Qe | apply Qf | apply Qg | apply Qh | apply Qi | exact QA | exact QP | refine QG ?_ | apply Qj | apply Qk | apply Ql | apply Qm | apply Qo | apply Qp | apply Qw | apply Qv | apply Qu | apply Qt | apply Qs | apply Qr | apply Qq | apply Qx | apply wrapS | apply Qy | (with_reducible exact lenNil) | apply Eq.refl)) | ((with_reducible first | apply Y1 | apply Y2 | apply Y3 | show blkEq _ _ _); conv => whnf))
  have h0 : E = 0 := by assumption
  have h1 : ¬ d < 0 := by assumption
  have h2 : ¬ d > 2 := by assumption
  have hr : rightL w d T = true := err_zero (hE.symm.trans h0)
  obtain ⟨he2, hin⟩ := grows_in hr ⟨by omega, by omega⟩
  have hp := outF_pos hr
  rw [← hL] at hin hp
  apply LoopP.to (G := Nat) (fun k => k ≤ L.length) [7, 8, 37, 38, 39] (fun k => [(7, .s (.c (.ptr 0 0))), (8, .s (.c (slC 1 rowE L))), (37, .s (.c (slC 1 rowE L))), (38, .s (.c (.i L.length))), (39, .i k)])
    (fun k => [(0, .row 24 (litC w (d + 1) T))]) 1 (fun k => L.length - k)
  apply And.intro
  · refine CutE.at 0 ?_
    repeat' (first | exact @id (emp _ = true) | (intro h; first | exact Bool.noConfusion h | (simp only [Qn] at h) | skip) | ((conv => whnf) <;> (first | exact trivial | apply Qa | apply And.intro | apply Qb | apply Qc | apply Qd | apply Qe | apply Qf | apply Qg | apply Qh | apply Qi | exact QA | exact QP | refine QG ?_ | apply Qj | apply Qk | apply Ql | apply Qm | apply Qo | apply Qp | apply Qw | apply Qv | apply Qu | apply Qt | apply Qs | apply Qr | apply Qq | apply Qx | apply wrapS | apply Qy | (with_reducible exact lenNil) | apply Eq.refl)) | ((with_reducible first | apply Y1 | apply Y2 | apply Y3 | show blkEq _ _ _); conv => whnf))
    all_goals first
      | exact Nat.zero_le _
      | exact (wrap_i64 ⟨by omega, by omega⟩).symm
      | trace_state
  intro k hk
  repeat' (first | exact @id (emp _ = true) | (intro h; first | exact Bool.noConfusion h | (simp only [Qn] at h) | skip) | ((conv => whnf) <;> (first | exact trivial | apply Qa | apply And.intro | refine CutE.at (A := Nat) (k + 1) ?_ | apply Qb | apply Qc | apply Qd | apply Qe | apply Qf | apply Qg | apply Qh | apply Qi | exact QA | exact QP | refine QG ?_ | apply Qj | apply Qk | apply Ql | apply Qm | apply Qo | apply Qp | apply Qw | apply Qv | apply Qu | apply Qt | apply Qs | apply Qr | apply Qq | apply Qx | apply wrapS | apply Qy | (with_reducible exact lenNil) | apply Eq.refl)) | ((with_reducible first | apply Y1 | apply Y2 | apply Y3 | show blkEq _ _ _); conv => whnf))
  all_goals try simp only [Int.toNat_natCast] at *
  all_goals first
    | omega
    | exact hsh _
    | (refine absurd (hin (L.getD k default) (getD_in (by omega))) ?_; assumption)
    | exact (decide_eq_true (by omega)).symm
    | trace_state
end Go.Eng
