/- FrameCalls, walked. -/
import Derived.Test.YtgjdbpleoegejaaFrF
set_option linter.unusedVariables false
set_option linter.unusedSimpArgs false
namespace Go.Eng
open Go Go.Proofs

theorem small0 : SmallT th0 := ⟨Nat.zero_le _, Nat.zero_le _⟩
theorem small_call {t : Th} (h : t.fs.length ≤ 1000 ∧ t.lf.length ≤ 1000) (to : Int) : SmallT (callF t to).1 := by
  unfold callF
  split
  · split
    · exact small0
    · exact ⟨by show (t.fs ++ _).length ≤ _; rw [List.length_append]; simp only [List.length_cons, List.length_nil]; omega, by show t.lf.length ≤ _; omega⟩
  · exact small0
theorem small_back {t : Th} (h : t.fs.length ≤ 1000 ∧ t.lf.length ≤ 1000) : SmallT (backF t).1 := by
  unfold backF
  split
  · split
    · exact small0
    · exact ⟨by show (t.fs.take _).length ≤ _; rw [List.length_take]; omega, by show t.lf.length ≤ _; omega⟩
  · exact small0
theorem thEq_self (t : Th) : thEq t t = true := decide_eq_true rfl
def F7 : List (Nat × FSpec) := (11, sFew) :: (16, sFrAlive) :: (17, sThSame) :: (15, sThR) :: (19, sRCall) :: (18, sRBack) :: F6
theorem F7_ok : GOK Try.prog (tab F7) := gok_cons few_ok (gok_cons frAlive_ok (gok_cons thSame_ok (gok_cons rthR_ok (gok_cons rcall_ok (gok_cons rback_ok F6_ok)))))

def sFCalls : FSpec := spec (Th × Int) (fun (t, to) => [.agg (thC t), .i to]) (fun _ => True) fun _ => .b true
set_option maxHeartbeats 8000000 in
set_option maxRecDepth 100000 in
theorem fcalls_ok : Meets Try.prog 3 sFCalls := by
  refine meets_plain F7_ok rfl [2] (fn := Try.f3) rfl rfl rfl (by decide) fun ⟨⟨pc, r0, r1, r2, r3, r4, r5, r6, r7, fs, st, fa, lf⟩, to⟩ _ => ?_
  have hw : (fs.take 8).length ≤ 8 := List.length_take_le _ _
  have hg : (lf.take 10).length ≤ 10 := List.length_take_le _ _
  repeat' (first | (intro h; first | exact Bool.noConfusion h | (guard_hyp h : true = true; clear h) | (guard_hyp h : false = false; clear h) | (simp only [decide_eq_true_eq, decide_eq_false_iff_not, beq_iff_eq, beq_eq_false_iff_ne, bne_iff_ne, bne_eq_false_iff_eq, Bool.not_eq_true', Bool.not_eq_false', ne_eq, Classical.not_not, Bool.not_true, Bool.not_false, beqL_iff, beqL_ff, List.cons.injEq, and_true] at h) | skip) | ((conv => whnf) <;> (first | exact True.intro | apply br_rec | apply And.intro | apply EntP.k0 | apply EntP.k1 | apply EntP.k2 | apply EntP.k3 | apply EntP.k4 | apply EntP.k5 | apply EntP.k6 | apply DrawP.go | (apply AnyP.mk; kernel_rfl) | (refine AggP.go 2 rfl (by kernel_rfl) ?_) | (refine AggP.go 1 rfl (by kernel_rfl) ?_) | (refine AggP.go 3 rfl (by kernel_rfl) ?_) | (refine AggP.go 4 rfl (by kernel_rfl) ?_) | (refine AggP.go 5 rfl (by kernel_rfl) ?_) | (refine AggP.go 8 rfl (by kernel_rfl) ?_) | (refine AggP.go 11 rfl (by kernel_rfl) ?_) | apply CallP.own0 | apply CallP.own1 | apply CallP.own2 | apply CallP.own3 | apply CallP.nb | apply CutE.go0 | apply CutE.go7 | apply CutE.go6 | apply CutE.go5 | apply CutE.go4 | apply CutE.go3 | apply CutE.go2 | apply CutE.go1 | apply RoP.id | apply wrapS | (with_reducible exact lenNil) | apply Eq.refl)) | ((first | (with_reducible show rvEq _ _ _ _) | (with_reducible show svEq _ _ _ _) | (with_reducible show cellEq _ _ _ _) | (with_reducible show blkEq _ _ _)); conv => whnf))
  apply CutP.up (G := Unit) (fun _ => True) [1, 2] (fun _ => []) (fun _ => [(0, .row 27 (thC ⟨pc, r0, r1, r2, r3, r4, r5, r6, r7, fs.take 8, st, fa, lf.take 10⟩))]) 1
  apply And.intro
  · repeat' (first | (intro h; first | exact Bool.noConfusion h | (guard_hyp h : true = true; clear h) | (guard_hyp h : false = false; clear h) | (simp only [decide_eq_true_eq, decide_eq_false_iff_not, beq_iff_eq, beq_eq_false_iff_ne, bne_iff_ne, bne_eq_false_iff_eq, Bool.not_eq_true', Bool.not_eq_false', ne_eq, Classical.not_not, Bool.not_true, Bool.not_false, beqL_iff, beqL_ff, List.cons.injEq, and_true] at h) | skip) | ((conv => whnf) <;> (first | exact True.intro | apply br_rec | apply And.intro | apply EntP.k0 | apply EntP.k1 | apply EntP.k2 | apply EntP.k3 | apply EntP.k4 | apply EntP.k5 | apply EntP.k6 | apply DrawP.go | (apply AnyP.mk; kernel_rfl) | (refine AggP.go 2 rfl (by kernel_rfl) ?_) | (refine AggP.go 1 rfl (by kernel_rfl) ?_) | (refine AggP.go 3 rfl (by kernel_rfl) ?_) | (refine AggP.go 4 rfl (by kernel_rfl) ?_) | (refine AggP.go 5 rfl (by kernel_rfl) ?_) | (refine AggP.go 8 rfl (by kernel_rfl) ?_) | (refine AggP.go 11 rfl (by kernel_rfl) ?_) | apply CallP.own0 | apply CallP.own1 | apply CallP.own2 | apply CallP.own3 | apply CallP.nb | apply CutE.go0 | apply CutE.go7 | apply CutE.go6 | apply CutE.go5 | apply CutE.go4 | apply CutE.go3 | apply CutE.go2 | apply CutE.go1 | apply RoP.id | apply wrapS | (with_reducible exact lenNil) | apply Eq.refl)) | ((first | (with_reducible show rvEq _ _ _ _) | (with_reducible show svEq _ _ _ _) | (with_reducible show cellEq _ _ _ _) | (with_reducible show blkEq _ _ _)); conv => whnf))
  rintro ⟨⟩ _
  generalize fs.take 8 = fs at *
  generalize lf.take 10 = lf at *
  have hN := small_call (t := ⟨pc, r0, r1, r2, r3, r4, r5, r6, r7, fs, st, fa, lf⟩) ⟨by show fs.length ≤ 1000; omega, by show lf.length ≤ 1000; omega⟩ to
  have hB := small_back (t := ⟨pc, r0, r1, r2, r3, r4, r5, r6, r7, fs, st, fa, lf⟩) ⟨by show fs.length ≤ 1000; omega, by show lf.length ≤ 1000; omega⟩
  have hS : SmallT ⟨pc, r0, r1, r2, r3, r4, r5, r6, r7, fs, st, fa, lf⟩ := ⟨by show fs.length ≤ 1000000; omega, by show lf.length ≤ 1000000; omega⟩
  have c0 : ¬ thR ⟨pc, r0, r1, r2, r3, r4, r5, r6, r7, fs, st, fa, lf⟩ = true → callF ⟨pc, r0, r1, r2, r3, r4, r5, r6, r7, fs, st, fa, lf⟩ to = (th0, 1) ∧ backF ⟨pc, r0, r1, r2, r3, r4, r5, r6, r7, fs, st, fa, lf⟩ = (th0, 1) := fun hr => ⟨callF_no fun hh => hr hh.1, backF_no hr⟩
  have c2 : thR ⟨pc, r0, r1, r2, r3, r4, r5, r6, r7, fs, st, fa, lf⟩ = false → ¬ thR ⟨pc, r0, r1, r2, r3, r4, r5, r6, r7, fs, st, fa, lf⟩ = true := fun h => by rw [h]; exact Bool.noConfusion
  have c1 : (pc = 1000 ∨ to < 0 ∨ 1000 < to) → callF ⟨pc, r0, r1, r2, r3, r4, r5, r6, r7, fs, st, fa, lf⟩ to = (th0, 1) := fun ho => callF_no fun hh => by
    have := placeF_iff.1 hh.2.2
    have h2 : ¬ pc = 1000 := hh.2.1
    omega
  repeat' (first | (intro h; first | exact Bool.noConfusion h | (guard_hyp h : true = true; clear h) | (guard_hyp h : false = false; clear h) | (simp only [decide_eq_true_eq, decide_eq_false_iff_not, beq_iff_eq, beq_eq_false_iff_ne, bne_iff_ne, bne_eq_false_iff_eq, Bool.not_eq_true', Bool.not_eq_false', ne_eq, Classical.not_not, Bool.not_true, Bool.not_false, beqL_iff, beqL_ff, List.cons.injEq, and_true] at h) | skip) | ((conv => whnf) <;> (first | exact True.intro | apply br_rec | apply And.intro | apply CutE.goTh2 | apply CutE.goTh1 | apply CutE.goTh | apply EntP.k0 | apply EntP.k1 | apply EntP.k2 | apply EntP.k3 | apply EntP.k4 | apply EntP.k5 | apply EntP.k6 | apply DrawP.go | (apply AnyP.mk; kernel_rfl) | (refine AggP.go 2 rfl (by kernel_rfl) ?_) | (refine AggP.go 1 rfl (by kernel_rfl) ?_) | (refine AggP.go 3 rfl (by kernel_rfl) ?_) | (refine AggP.go 4 rfl (by kernel_rfl) ?_) | (refine AggP.go 5 rfl (by kernel_rfl) ?_) | (refine AggP.go 8 rfl (by kernel_rfl) ?_) | (refine AggP.go 11 rfl (by kernel_rfl) ?_) | apply CallP.own0 | apply CallP.own1 | apply CallP.own2 | apply CallP.own3 | apply CallP.nb | apply CutE.go0 | apply CutE.go7 | apply CutE.go6 | apply CutE.go5 | apply CutE.go4 | apply CutE.go3 | apply CutE.go2 | apply CutE.go1 | apply RoP.id | apply wrapS | (with_reducible exact lenNil) | apply Eq.refl)) | ((first | (with_reducible show rvEq _ _ _ _) | (with_reducible show svEq _ _ _ _) | (with_reducible show cellEq _ _ _ _) | (with_reducible show blkEq _ _ _)); conv => whnf))
  all_goals try simp only at *
  all_goals try first
    | exact hS.1
    | exact hS.2
    | exact hN.1
    | exact hN.2
    | exact hB.1
    | exact hB.2
    | exact Nat.zero_le _
    | exact absurd True.intro ‹¬True›
    | exact (thEq_self _).symm
  all_goals (by_cases hr : thR ⟨pc, r0, r1, r2, r3, r4, r5, r6, r7, fs, st, fa, lf⟩ = true)
  all_goals first
    | exact hr
    | contradiction
    | exact absurd hr (c2 (by assumption))
    | exact placeF_iff.2 (by omega)
    | (exfalso; exact Bool.noConfusion ((thEq_self _).symm.trans h))
    | (exfalso; exact h rfl)
    | (exfalso; exact hr (by assumption))
    | (exfalso; exact Bool.noConfusion (hr.symm.trans (by assumption)))
    | (rw [(c0 hr).1]; exact (thEq_self th0).symm)
    | (rw [(c0 hr).2]; exact (thEq_self th0).symm)
    | (exfalso; rw [(c0 hr).1] at h; first | exact h rfl | exact Bool.noConfusion ((thEq_self th0).symm.trans h))
    | (exfalso; rw [(c0 hr).2] at h; first | exact h rfl | exact Bool.noConfusion ((thEq_self th0).symm.trans h))
    | (have e := c1 (by omega); rw [e]; exact (thEq_self th0).symm)
    | (exfalso; have e := c1 (by omega); rw [e] at h; first | exact h rfl | exact Bool.noConfusion ((thEq_self th0).symm.trans h))
    | trace_state
end Go.Eng
