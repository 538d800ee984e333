/- FrameBack, walked. -/
import Derived.Test.YtgjdbpleoegejaaFrG
set_option linter.unusedVariables false
set_option linter.unusedSimpArgs false
namespace Go.Eng
open Go Go.Proofs

def remF (e : Int) : Int := (IntKind.i64.wrap (e.tmod 1001 + 1001)).tmod 1001
theorem remF_ok (e : Int) : 0 ≤ remF e ∧ remF e ≤ 1000 := by
  unfold remF
  have h1 := Int.tmod_lt_of_pos e (show (0 : Int) < 1001 by omega)
  have h2 := Int.lt_tmod_of_pos e (show (0 : Int) < 1001 by omega)
  rw [wrap_i64 (x := e.tmod 1001 + 1001) ⟨by omega, by omega⟩]
  have h3 : 0 ≤ (e.tmod 1001 + 1001).tmod 1001 := Int.tmod_nonneg _ (by omega)
  have h4 := Int.tmod_lt_of_pos (e.tmod 1001 + 1001) (show (0 : Int) < 1001 by omega)
  omega
theorem getD_snoc {α : Type} [Inhabited α] (l : List α) (x : α) : (l ++ [x]).getD ((l ++ [x]).length - 1) default = x := by simp [List.getD_eq_getElem?_getD]
theorem take_snoc {α : Type} (l : List α) (x : α) : (l ++ [x]).take ((l ++ [x]).length - 1) = l := by simp
/-- Who comes back goes on behind the call. -/
theorem back_call {t : Th} {to e q0 q1 q2 q3 q4 q5 q6 q7 : Int} (hh : thR t = true ∧ ¬ t.pc = 1000 ∧ placeF to = true) (h6 : ¬ t.fs.length = 6) (he : 0 ≤ e ∧ e ≤ 1000) :
    backF ⟨e, q0, q1, q2, q3, q4, q5, q6, q7, t.fs ++ [⟨t.pc + 1, t.r4, t.r5, t.r6, t.r7⟩], t.st, t.fa, t.lf⟩ = (⟨t.pc + 1, q0, q1, q2, q3, t.r4, t.r5, t.r6, t.r7, t.fs, t.st, t.fa, t.lf⟩, 0) := by
  obtain ⟨a, b, c, d, f, g⟩ := thR_iff.1 hh.1
  have hp := placeF_iff.1 a
  have hpc : ¬ t.pc = 1000 := hh.2.1
  have hr : thR ⟨e, q0, q1, q2, q3, q4, q5, q6, q7, t.fs ++ [⟨t.pc + 1, t.r4, t.r5, t.r6, t.r7⟩], t.st, t.fa, t.lf⟩ = true := by
    refine thR_iff.2 ⟨placeF_iff.2 he, ?_, c, ?_, f, g⟩
    · show (t.fs ++ _).length ≤ 6
      rw [List.length_append]; simp only [List.length_cons, List.length_nil]; omega
    · show (t.fs ++ _).any badFr = false
      rw [List.any_append, d]
      simp only [List.any_cons, List.any_nil, Bool.or_false, Bool.false_or]
      exact badFr_f (by show ¬ (t.pc + 1 < 0 ∨ 1000 < t.pc + 1); omega)
  rw [backF_go hr (by show ¬ (t.fs ++ _).length = 0; rw [List.length_append]; simp)]
  show ((⟨((t.fs ++ [_]).getD ((t.fs ++ [_]).length - 1) default).back, _, _, _, _, ((t.fs ++ [_]).getD ((t.fs ++ [_]).length - 1) default).k0, ((t.fs ++ [_]).getD ((t.fs ++ [_]).length - 1) default).k1, ((t.fs ++ [_]).getD ((t.fs ++ [_]).length - 1) default).k2, ((t.fs ++ [_]).getD ((t.fs ++ [_]).length - 1) default).k3, (t.fs ++ [_]).take ((t.fs ++ [_]).length - 1), _, _, _⟩ : Th), (0 : Int)) = _
  rw [getD_snoc, take_snoc]
theorem call_ok0 {t : Th} {to : Int} (h : (callF t to).2 = 0) : (thR t = true ∧ ¬ t.pc = 1000 ∧ placeF to = true) ∧ ¬ t.fs.length = 6 := by
  by_cases hh : thR t = true ∧ ¬ t.pc = 1000 ∧ placeF to = true
  · by_cases h6 : t.fs.length = 6
    · rw [callF_deep hh h6] at h; exact absurd h (by decide)
    · exact ⟨hh, h6⟩
  · rw [callF_no hh] at h; exact absurd h (by decide)
theorem call_bad {t : Th} {to : Int} (h : ¬ (callF t to).2 = 0) : (callF t to).1 = th0 := by
  by_cases hh : thR t = true ∧ ¬ t.pc = 1000 ∧ placeF to = true
  · by_cases h6 : t.fs.length = 6
    · rw [callF_deep hh h6]
    · rw [callF_go hh h6] at h; exact absurd rfl h
  · rw [callF_no hh]

def sFBack : FSpec := spec (Th × Int × Int × Int × Int × Int × Int × Int × Int × Int × Int) (fun (t, to, e, q0, q1, q2, q3, q4, q5, q6, q7) => [.agg (thC t), .i to, .i e, .agg [.i q0, .i q1, .i q2, .i q3, .i q4, .i q5, .i q6, .i q7]]) (fun _ => True) fun _ => .b true
set_option maxHeartbeats 8000000 in
set_option maxRecDepth 100000 in
theorem fback_ok : Meets Try.prog 4 sFBack := by
  refine meets_plain F7_ok rfl [2] (fn := Try.f4) rfl rfl rfl (by decide) fun ⟨⟨pc, r0, r1, r2, r3, r4, r5, r6, r7, fs, st, fa, lf⟩, to, e, q0, q1, q2, q3, q4, q5, q6, q7⟩ _ => ?_
  have hw : (fs.take 8).length ≤ 8 := List.length_take_le _ _
  have hg : (lf.take 10).length ≤ 10 := List.length_take_le _ _
  repeat' (first | (intro h; first | exact Bool.noConfusion h | (guard_hyp h : true = true; clear h) | (guard_hyp h : false = false; clear h) | (simp only [decide_eq_true_eq, decide_eq_false_iff_not, beq_iff_eq, beq_eq_false_iff_ne, bne_iff_ne, bne_eq_false_iff_eq, Bool.not_eq_true', Bool.not_eq_false', ne_eq, Classical.not_not, Bool.not_true, Bool.not_false, beqL_iff, beqL_ff, List.cons.injEq, and_true] at h) | skip) | ((conv => whnf) <;> (first | exact True.intro | apply br_rec | apply And.intro | apply EntP.k0 | apply EntP.k1 | apply EntP.k2 | apply EntP.k3 | apply EntP.k4 | apply EntP.k5 | apply EntP.k6 | apply DrawP.go | (apply AnyP.mk; kernel_rfl) | (refine AggP.go 2 rfl (by kernel_rfl) ?_) | (refine AggP.go 1 rfl (by kernel_rfl) ?_) | (refine AggP.go 3 rfl (by kernel_rfl) ?_) | (refine AggP.go 4 rfl (by kernel_rfl) ?_) | (refine AggP.go 5 rfl (by kernel_rfl) ?_) | (refine AggP.go 8 rfl (by kernel_rfl) ?_) | (refine AggP.go 11 rfl (by kernel_rfl) ?_) | apply CallP.own0 | apply CallP.own1 | apply CallP.own2 | apply CallP.own3 | apply CallP.nb | apply CutE.go0 | apply CutE.go7 | apply CutE.go6 | apply CutE.go5 | apply CutE.go4 | apply CutE.go3 | apply CutE.go2 | apply CutE.go1 | apply RoP.id | apply wrapS | (with_reducible exact lenNil) | apply Eq.refl)) | ((first | (with_reducible show rvEq _ _ _ _) | (with_reducible show svEq _ _ _ _) | (with_reducible show cellEq _ _ _ _) | (with_reducible show blkEq _ _ _)); conv => whnf))
  apply CutP.up (G := Unit) (fun _ => True) [1, 2, 4, 7] (fun _ => []) (fun _ => [(0, .row 27 (thC ⟨pc, r0, r1, r2, r3, r4, r5, r6, r7, fs.take 8, st, fa, lf.take 10⟩))]) 2
  apply And.intro
  · repeat' (first | (intro h; first | exact Bool.noConfusion h | (guard_hyp h : true = true; clear h) | (guard_hyp h : false = false; clear h) | (simp only [decide_eq_true_eq, decide_eq_false_iff_not, beq_iff_eq, beq_eq_false_iff_ne, bne_iff_ne, bne_eq_false_iff_eq, Bool.not_eq_true', Bool.not_eq_false', ne_eq, Classical.not_not, Bool.not_true, Bool.not_false, beqL_iff, beqL_ff, List.cons.injEq, and_true] at h) | skip) | ((conv => whnf) <;> (first | exact True.intro | apply br_rec | apply And.intro | apply EntP.k0 | apply EntP.k1 | apply EntP.k2 | apply EntP.k3 | apply EntP.k4 | apply EntP.k5 | apply EntP.k6 | apply DrawP.go | (apply AnyP.mk; kernel_rfl) | (refine AggP.go 2 rfl (by kernel_rfl) ?_) | (refine AggP.go 1 rfl (by kernel_rfl) ?_) | (refine AggP.go 3 rfl (by kernel_rfl) ?_) | (refine AggP.go 4 rfl (by kernel_rfl) ?_) | (refine AggP.go 5 rfl (by kernel_rfl) ?_) | (refine AggP.go 8 rfl (by kernel_rfl) ?_) | (refine AggP.go 11 rfl (by kernel_rfl) ?_) | apply CallP.own0 | apply CallP.own1 | apply CallP.own2 | apply CallP.own3 | apply CallP.nb | apply CutE.go0 | apply CutE.go7 | apply CutE.go6 | apply CutE.go5 | apply CutE.go4 | apply CutE.go3 | apply CutE.go2 | apply CutE.go1 | apply RoP.id | apply wrapS | (with_reducible exact lenNil) | apply Eq.refl)) | ((first | (with_reducible show rvEq _ _ _ _) | (with_reducible show svEq _ _ _ _) | (with_reducible show cellEq _ _ _ _) | (with_reducible show blkEq _ _ _)); conv => whnf))
  rintro ⟨⟩ _
  generalize fs.take 8 = fs at *
  generalize lf.take 10 = lf at *
  have hN := small_call (t := ⟨pc, r0, r1, r2, r3, r4, r5, r6, r7, fs, st, fa, lf⟩) ⟨by show fs.length ≤ 1000; omega, by show lf.length ≤ 1000; omega⟩ to
  have hS : SmallT ⟨pc, r0, r1, r2, r3, r4, r5, r6, r7, fs, st, fa, lf⟩ := ⟨by show fs.length ≤ 1000000; omega, by show lf.length ≤ 1000000; omega⟩
  repeat' (first | (intro h; first | exact Bool.noConfusion h | (guard_hyp h : true = true; clear h) | (guard_hyp h : false = false; clear h) | (simp only [decide_eq_true_eq, decide_eq_false_iff_not, beq_iff_eq, beq_eq_false_iff_ne, bne_iff_ne, bne_eq_false_iff_eq, Bool.not_eq_true', Bool.not_eq_false', ne_eq, Classical.not_not, Bool.not_true, Bool.not_false, beqL_iff, beqL_ff, List.cons.injEq, and_true] at h) | skip) | ((conv => whnf) <;> (first | exact True.intro | apply br_rec | apply And.intro | apply CutE.goTh2 | apply CutE.goTh1 | apply CutE.goTh | apply EntP.k0 | apply EntP.k1 | apply EntP.k2 | apply EntP.k3 | apply EntP.k4 | apply EntP.k5 | apply EntP.k6 | apply DrawP.go | (apply AnyP.mk; kernel_rfl) | (refine AggP.go 2 rfl (by kernel_rfl) ?_) | (refine AggP.go 1 rfl (by kernel_rfl) ?_) | (refine AggP.go 3 rfl (by kernel_rfl) ?_) | (refine AggP.go 4 rfl (by kernel_rfl) ?_) | (refine AggP.go 5 rfl (by kernel_rfl) ?_) | (refine AggP.go 8 rfl (by kernel_rfl) ?_) | (refine AggP.go 11 rfl (by kernel_rfl) ?_) | apply CallP.own0 | apply CallP.own1 | apply CallP.own2 | apply CallP.own3 | apply CallP.nb | apply CutE.go0 | apply CutE.go7 | apply CutE.go6 | apply CutE.go5 | apply CutE.go4 | apply CutE.go3 | apply CutE.go2 | apply CutE.go1 | apply RoP.id | apply wrapS | (with_reducible exact lenNil) | apply Eq.refl)) | ((first | (with_reducible show rvEq _ _ _ _) | (with_reducible show svEq _ _ _ _) | (with_reducible show cellEq _ _ _ _) | (with_reducible show blkEq _ _ _)); conv => whnf))
  all_goals try simp only at *
  all_goals try first
    | exact hS.1
    | exact hS.2
    | exact hN.1
    | exact hN.2
    | contradiction
    | (rw [call_bad (by assumption)]; rfl)
  all_goals (obtain ⟨hh, h6⟩ := call_ok0 (t := ⟨pc, r0, r1, r2, r3, r4, r5, r6, r7, fs, st, fa, lf⟩) (to := to) (by assumption))
  all_goals try (exfalso; rw [callF_go hh h6] at h; first | exact h rfl | exact h ⟨rfl, rfl, rfl, rfl, rfl, rfl, rfl, rfl⟩ | exact absurd True.intro h | contradiction)
  have hbk := back_call (t := ⟨pc, r0, r1, r2, r3, r4, r5, r6, r7, fs, st, fa, lf⟩) (to := to) (e := remF e) (q0 := q0) (q1 := q1) (q2 := q2) (q3 := q3) (q4 := q4) (q5 := q5) (q6 := q6) (q7 := q7) hh h6 (remF_ok e)
  have hres : ∀ X : Th, X = ⟨remF e, q0, q1, q2, q3, q4, q5, q6, q7, fs ++ [⟨pc + 1, r4, r5, r6, r7⟩], st, fa, lf⟩ → sBackF.res X = .tup [rTh ⟨pc + 1, q0, q1, q2, q3, r4, r5, r6, r7, fs, st, fa, lf⟩, .c (.i 0)] := fun X hX => by
    subst hX
    show RV.tup _ = _
    rw [hbk]
  have hpc : 0 ≤ pc ∧ pc ≤ 1000 := placeF_iff.1 (thR_iff.1 hh.1).1
  have hwp : IntKind.i64.wrap (pc + 1) = pc + 1 := wrap_i64 (by omega)
  rw [hres]
  · apply LoopP.up (G := Nat) (fun k => k ≤ 4) [4, 7, 11, 12, 62] (fun k => [(62, .i k)]) (fun k => [(0, .row 27 (thC ⟨pc + 1, if 0 < k then q0 else r0, if 1 < k then q1 else r1, if 2 < k then q2 else r2, if 3 < k then q3 else r3, r4, r5, r6, r7, fs, st, fa, lf⟩))]) 4 (fun k => 4 - k)
    apply And.intro
    · refine CutE.at 0 ?_
      repeat' (first | (intro h; first | exact Bool.noConfusion h | (guard_hyp h : true = true; clear h) | (guard_hyp h : false = false; clear h) | (simp only [decide_eq_true_eq, decide_eq_false_iff_not, beq_iff_eq, beq_eq_false_iff_ne, bne_iff_ne, bne_eq_false_iff_eq, Bool.not_eq_true', Bool.not_eq_false', ne_eq, Classical.not_not, Bool.not_true, Bool.not_false, beqL_iff, beqL_ff, List.cons.injEq, and_true] at h) | skip) | ((conv => whnf) <;> (first | exact True.intro | apply br_rec | apply And.intro | apply EntP.id 4 | apply EntP.k0 | apply EntP.k1 | apply EntP.k2 | apply EntP.k3 | apply EntP.k4 | apply EntP.k5 | apply EntP.k6 | apply DrawP.go | (apply AnyP.mk; kernel_rfl) | (refine AggP.go 2 rfl (by kernel_rfl) ?_) | (refine AggP.go 1 rfl (by kernel_rfl) ?_) | (refine AggP.go 3 rfl (by kernel_rfl) ?_) | (refine AggP.go 4 rfl (by kernel_rfl) ?_) | (refine AggP.go 5 rfl (by kernel_rfl) ?_) | (refine AggP.go 8 rfl (by kernel_rfl) ?_) | (refine AggP.go 11 rfl (by kernel_rfl) ?_) | apply CallP.own0 | apply CallP.own1 | apply CallP.own2 | apply CallP.own3 | apply CallP.nb | apply CutE.go0 | apply CutE.go7 | apply CutE.go6 | apply CutE.go5 | apply CutE.go4 | apply CutE.go3 | apply CutE.go2 | apply CutE.go1 | apply RoP.id | apply wrapS | (with_reducible exact lenNil) | apply Eq.refl)) | ((first | (with_reducible show rvEq _ _ _ _) | (with_reducible show svEq _ _ _ _) | (with_reducible show cellEq _ _ _ _) | (with_reducible show blkEq _ _ _)); conv => whnf))
      all_goals first
        | exact hwp.symm
        | exact Nat.zero_le _
        | rfl
        | trace_state
    · intro k hk
      repeat' (first | (intro h; first | exact Bool.noConfusion h | (guard_hyp h : true = true; clear h) | (guard_hyp h : false = false; clear h) | (simp only [decide_eq_true_eq, decide_eq_false_iff_not, beq_iff_eq, beq_eq_false_iff_ne, bne_iff_ne, bne_eq_false_iff_eq, Bool.not_eq_true', Bool.not_eq_false', ne_eq, Classical.not_not, Bool.not_true, Bool.not_false, beqL_iff, beqL_ff, List.cons.injEq, and_true] at h) | skip) | ((conv => whnf) <;> (first | exact True.intro | apply br_rec | apply And.intro | refine CutE.at (A := Nat) (k + 1) ?_ | apply CutE.goTh2 | apply EntP.id 4 | apply EntP.k0 | apply EntP.k1 | apply EntP.k2 | apply EntP.k3 | apply EntP.k4 | apply EntP.k5 | apply EntP.k6 | apply DrawP.go | (apply AnyP.mk; kernel_rfl) | (refine AggP.go 2 rfl (by kernel_rfl) ?_) | (refine AggP.go 1 rfl (by kernel_rfl) ?_) | (refine AggP.go 3 rfl (by kernel_rfl) ?_) | (refine AggP.go 4 rfl (by kernel_rfl) ?_) | (refine AggP.go 5 rfl (by kernel_rfl) ?_) | (refine AggP.go 8 rfl (by kernel_rfl) ?_) | (refine AggP.go 11 rfl (by kernel_rfl) ?_) | apply CallP.own0 | apply CallP.own1 | apply CallP.own2 | apply CallP.own3 | apply CallP.nb | apply CutE.go0 | apply CutE.go7 | apply CutE.go6 | apply CutE.go5 | apply CutE.go4 | apply CutE.go3 | apply CutE.go2 | apply CutE.go1 | apply RoP.id | apply wrapS | (with_reducible exact lenNil) | apply Eq.refl)) | ((first | (with_reducible show rvEq _ _ _ _) | (with_reducible show svEq _ _ _ _) | (with_reducible show cellEq _ _ _ _) | (with_reducible show blkEq _ _ _)); conv => whnf))
      all_goals try simp only [Int.toNat_natCast] at *
      all_goals first
        | omega
        | exact hS.1
        | exact hS.2
        | (have hk4 : k = 4 := by omega
           subst hk4
           exact (thEq_self _).symm)
        | (have hk5 : k = 0 ∨ k = 1 ∨ k = 2 ∨ k = 3 := by omega
           rcases hk5 with rfl | rfl | rfl | rfl <;> first | rfl | simp)
        | trace_state
  · rw [callF_go hh h6]; rfl
end Go.Eng
