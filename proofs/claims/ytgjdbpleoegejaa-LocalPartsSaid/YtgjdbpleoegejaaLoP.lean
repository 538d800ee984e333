/- LocalRuns, walked. -/
import Derived.Test.YtgjdbpleoegejaaLoN
set_option linter.unusedVariables false
set_option linter.unusedSimpArgs false
namespace Go.Eng
open Go Go.Proofs

theorem run_want1 {t : Th} {s : Int} {code : List Ins} {most : Int} (h : ¬ thR t = true ∨ s < 0 ∨ 7 < s ∨ most < 0 ∨ 1000 < most) : runF t s code most = (th0, 0, 1) := by
  refine runF_A ?_
  by_cases h2 : most < 0 ∨ 1000 < most
  · exact .inr (by omega)
  · refine .inl (rdy_not fun ⟨h3, h4, h5⟩ => ?_)
    rcases h with h | h | h | h | h
    · exact h h3
    all_goals omega
theorem run_want2 {t : Th} {s : Int} {code : List Ins} {most : Int} (h1 : thR t = true) (h3 : 0 ≤ s ∧ s ≤ 7) (hm : 0 ≤ most ∧ most ≤ 1000) (h : rdyF t = false) : runF t s code most = (th0, 0, 9) := by
  have e := rdy_is h1 h3
  rw [h] at e
  have e : readyF t s = 9 := e
  exact runF_B (fun h' => by rcases h' with h' | h'; omega; exact h' hm) e
theorem run_want3 {t : Th} {s : Int} {code : List Ins} {most : Int} (h1 : thR t = true) (h3 : 0 ≤ s ∧ s ≤ 7) (hm : 0 ≤ most ∧ most ≤ 1000) (h : rdyF t = true) : runF t s code most = ((runW s code most.toNat t 0).1, (runW s code most.toNat t 0).2, 0) := by
  have e := rdy_yes h1 h3 h
  exact runF_C (fun h' => by rcases h' with h' | h'; omega; exact h' hm) (by omega)
def sLRuns : FSpec := spec (Th × Int × List Ins × Int) (fun (t, s, code, most) => [.agg (thC t), .i s, .c (codeS code), .i most]) (fun _ => True) fun _ => .b true
theorem CutE.goRn {p : Th × Int × List Ins × Int → Prop} {pc r0 r1 r2 r3 r4 r5 r6 r7 : Int} {fs : List FrT} {st fa : Int} {lf : List Int} {s : Int} {code : List Ins} {most : Int} (h : p (⟨pc, r0, r1, r2, r3, r4, r5, r6, r7, fs, st, fa, lf⟩, s, code, most)) : CutE (Th × Int × List Ins × Int) p := ⟨⟨_, h⟩⟩
set_option maxHeartbeats 8000000 in
set_option maxRecDepth 100000 in
theorem lruns_ok : Meets Try.prog 9 sLRuns := by
  refine meets_plain LR_ok rfl [2] (fn := Try.f9) rfl rfl rfl (by decide) fun ⟨⟨pc, r0, r1, r2, r3, r4, r5, r6, r7, fs, st, fa, lf⟩, s, code, most⟩ _ => ?_
  have hw : (fs.take 8).length ≤ 8 := List.length_take_le _ _
  have hg : (lf.take 10).length ≤ 10 := List.length_take_le _ _
  have hk : (code.take 100).length ≤ 100 := List.length_take_le _ _
  repeat' (first | (intro h; first | exact Bool.noConfusion h | (guard_hyp h : true = true; clear h) | (guard_hyp h : false = false; clear h) | (simp only [decide_eq_true_eq, decide_eq_false_iff_not, beq_iff_eq, beq_eq_false_iff_ne, bne_iff_ne, bne_eq_false_iff_eq, Bool.not_eq_true', Bool.not_eq_false', ne_eq, Classical.not_not, Bool.not_true, Bool.not_false, beqL_iff, beqL_ff, List.cons.injEq, and_true] at h) | skip) | ((conv => whnf) <;> (first | exact True.intro | apply br_rec | apply And.intro | apply EntP.k0 | apply EntP.k1 | apply EntP.k2 | apply EntP.k3 | apply EntP.k4 | apply EntP.k5 | apply EntP.k6 | apply DrawP.go | (apply AnyP.mk; kernel_rfl) | (refine AggP.go 2 rfl (by kernel_rfl) ?_) | (refine AggP.go 1 rfl (by kernel_rfl) ?_) | (refine AggP.go 3 rfl (by kernel_rfl) ?_) | (refine AggP.go 4 rfl (by kernel_rfl) ?_) | (refine AggP.go 5 rfl (by kernel_rfl) ?_) | (refine AggP.go 8 rfl (by kernel_rfl) ?_) | (refine AggP.go 11 rfl (by kernel_rfl) ?_) | apply CallP.own0 | apply CallP.own1 | apply CallP.own2 | apply CallP.own3 | apply CallP.nb | apply CutE.go0 | apply CutE.go7 | apply CutE.go6 | apply CutE.go5 | apply CutE.go4 | apply CutE.go3 | apply CutE.go2 | apply CutE.go1 | apply RoP.id | apply wrapS | (with_reducible exact lenNil) | apply Eq.refl)) | ((first | (with_reducible show rvEq _ _ _ _) | (with_reducible show svEq _ _ _ _) | (with_reducible show cellEq _ _ _ _) | (with_reducible show blkEq _ _ _)); conv => whnf))
  all_goals try first
    | omega
    | exact take_lo (m := 100)
    | exact take_hi (m := 100)
  apply CutP.up (G := Unit) (fun _ => True) [1, 2, 3, 4] (fun _ => [(2, .c (codeS (code.take 100)))]) (fun _ => [(0, .row 27 (thC ⟨pc, r0, r1, r2, r3, r4, r5, r6, r7, fs.take 8, st, fa, lf.take 10⟩))]) 1
  apply And.intro
  · repeat' (first | (intro h; first | exact Bool.noConfusion h | (guard_hyp h : true = true; clear h) | (guard_hyp h : false = false; clear h) | (simp only [decide_eq_true_eq, decide_eq_false_iff_not, beq_iff_eq, beq_eq_false_iff_ne, bne_iff_ne, bne_eq_false_iff_eq, Bool.not_eq_true', Bool.not_eq_false', ne_eq, Classical.not_not, Bool.not_true, Bool.not_false, beqL_iff, beqL_ff, List.cons.injEq, and_true] at h) | skip) | ((conv => whnf) <;> (first | exact True.intro | apply br_rec | apply And.intro | apply EntP.k0 | apply EntP.k1 | apply EntP.k2 | apply EntP.k3 | apply EntP.k4 | apply EntP.k5 | apply EntP.k6 | apply DrawP.go | (apply AnyP.mk; kernel_rfl) | (refine AggP.go 2 rfl (by kernel_rfl) ?_) | (refine AggP.go 1 rfl (by kernel_rfl) ?_) | (refine AggP.go 3 rfl (by kernel_rfl) ?_) | (refine AggP.go 4 rfl (by kernel_rfl) ?_) | (refine AggP.go 5 rfl (by kernel_rfl) ?_) | (refine AggP.go 8 rfl (by kernel_rfl) ?_) | (refine AggP.go 11 rfl (by kernel_rfl) ?_) | apply CallP.own0 | apply CallP.own1 | apply CallP.own2 | apply CallP.own3 | apply CallP.nb | apply CutE.go0 | apply CutE.go7 | apply CutE.go6 | apply CutE.go5 | apply CutE.go4 | apply CutE.go3 | apply CutE.go2 | apply CutE.go1 | apply RoP.id | apply wrapS | (with_reducible exact lenNil) | apply Eq.refl)) | ((first | (with_reducible show rvEq _ _ _ _) | (with_reducible show svEq _ _ _ _) | (with_reducible show cellEq _ _ _ _) | (with_reducible show blkEq _ _ _)); conv => whnf))
    all_goals first
      | omega
      | exact take_lo (m := 100)
      | exact take_hi (m := 100)
      | exact take_len (m := 100)
      | (apply take_cell (m := 100); assumption)
      | trace_state
  rintro ⟨⟩ _
  generalize fs.take 8 = fs at *
  generalize lf.take 10 = lf at *
  generalize code.take 100 = code at *
  have hN := small_run (t := ⟨pc, r0, r1, r2, r3, r4, r5, r6, r7, fs, st, fa, lf⟩) (s := s) (code := code) (most := most)
  have hS : SmallT ⟨pc, r0, r1, r2, r3, r4, r5, r6, r7, fs, st, fa, lf⟩ := ⟨by show fs.length ≤ 1000000; omega, by show lf.length ≤ 1000000; omega⟩
  have wants : (¬ thR ⟨pc, r0, r1, r2, r3, r4, r5, r6, r7, fs, st, fa, lf⟩ = true ∨ s < 0 ∨ 7 < s ∨ most < 0 ∨ 1000 < most) ∧ runF ⟨pc, r0, r1, r2, r3, r4, r5, r6, r7, fs, st, fa, lf⟩ s code most = (th0, 0, 1) ∨ thR ⟨pc, r0, r1, r2, r3, r4, r5, r6, r7, fs, st, fa, lf⟩ = true ∧ 0 ≤ s ∧ s ≤ 7 ∧ 0 ≤ most ∧ most ≤ 1000 ∧ (rdyF ⟨pc, r0, r1, r2, r3, r4, r5, r6, r7, fs, st, fa, lf⟩ = false ∧ runF ⟨pc, r0, r1, r2, r3, r4, r5, r6, r7, fs, st, fa, lf⟩ s code most = (th0, 0, 9) ∨ rdyF ⟨pc, r0, r1, r2, r3, r4, r5, r6, r7, fs, st, fa, lf⟩ = true ∧ readyF ⟨pc, r0, r1, r2, r3, r4, r5, r6, r7, fs, st, fa, lf⟩ s = 0 ∧
      runF ⟨pc, r0, r1, r2, r3, r4, r5, r6, r7, fs, st, fa, lf⟩ s code most = ((runW s code most.toNat ⟨pc, r0, r1, r2, r3, r4, r5, r6, r7, fs, st, fa, lf⟩ 0).1, (runW s code most.toNat ⟨pc, r0, r1, r2, r3, r4, r5, r6, r7, fs, st, fa, lf⟩ 0).2, 0)) := by
    by_cases h1 : ¬ thR ⟨pc, r0, r1, r2, r3, r4, r5, r6, r7, fs, st, fa, lf⟩ = true ∨ s < 0 ∨ 7 < s ∨ most < 0 ∨ 1000 < most
    · exact .inl ⟨h1, run_want1 h1⟩
    have hr : thR ⟨pc, r0, r1, r2, r3, r4, r5, r6, r7, fs, st, fa, lf⟩ = true := Classical.byContradiction fun h => h1 (.inl h)
    have hs : 0 ≤ s ∧ s ≤ 7 := by omega
    have hm : 0 ≤ most ∧ most ≤ 1000 := by omega
    refine .inr ⟨hr, hs.1, hs.2, hm.1, hm.2, ?_⟩
    cases h2 : rdyF ⟨pc, r0, r1, r2, r3, r4, r5, r6, r7, fs, st, fa, lf⟩ with
    | false => exact .inl ⟨rfl, run_want2 hr hs hm h2⟩
    | true => exact .inr ⟨rfl, rdy_yes hr hs h2, run_want3 hr hs hm h2⟩
  repeat' (first | (intro h; first | exact Bool.noConfusion h | (guard_hyp h : true = true; clear h) | (guard_hyp h : false = false; clear h) | (simp only [decide_eq_true_eq, decide_eq_false_iff_not, beq_iff_eq, beq_eq_false_iff_ne, bne_iff_ne, bne_eq_false_iff_eq, Bool.not_eq_true', Bool.not_eq_false', ne_eq, Classical.not_not, Bool.not_true, Bool.not_false, beqL_iff, beqL_ff, List.cons.injEq, and_true] at h) | skip) | ((conv => whnf) <;> (first | exact True.intro | apply br_rec | apply And.intro | apply CutE.goRn | apply CutE.goTh2 | apply CutE.goTh1 | apply CutE.goTh | apply EntP.k0 | apply EntP.k1 | apply EntP.k2 | apply EntP.k3 | apply EntP.k4 | apply EntP.k5 | apply EntP.k6 | apply DrawP.go | (apply AnyP.mk; kernel_rfl) | (refine AggP.go 2 rfl (by kernel_rfl) ?_) | (refine AggP.go 1 rfl (by kernel_rfl) ?_) | (refine AggP.go 3 rfl (by kernel_rfl) ?_) | (refine AggP.go 4 rfl (by kernel_rfl) ?_) | (refine AggP.go 5 rfl (by kernel_rfl) ?_) | (refine AggP.go 8 rfl (by kernel_rfl) ?_) | (refine AggP.go 11 rfl (by kernel_rfl) ?_) | apply CallP.own0 | apply CallP.own1 | apply CallP.own2 | apply CallP.own3 | apply CallP.nb | apply CutE.go0 | apply CutE.go7 | apply CutE.go6 | apply CutE.go5 | apply CutE.go4 | apply CutE.go3 | apply CutE.go2 | apply CutE.go1 | apply RoP.id | apply wrapS | (with_reducible exact lenNil) | apply Eq.refl)) | ((first | (with_reducible show rvEq _ _ _ _) | (with_reducible show svEq _ _ _ _) | (with_reducible show cellEq _ _ _ _) | (with_reducible show blkEq _ _ _)); conv => whnf))
  all_goals try simp only at *
  all_goals try first
    | exact hS.1
    | exact hS.2
    | exact hN.1
    | exact hN.2
    | exact Nat.zero_le _
  all_goals (rcases wants with ⟨w1, w⟩ | ⟨w1, w2, w3, w4, w5, ⟨w6, w⟩ | ⟨w6, w7, w⟩⟩)
  all_goals try simp only [w] at *
  all_goals try simp only [w6] at *
  all_goals first
    | contradiction
    | exact hN.1
    | exact hN.2
    | omega
    | (exfalso; omega)
    | exact (thEq_self _).symm
    | assumption
    | (exfalso; exact Bool.noConfusion ((thEq_self _).symm.trans (by assumption)))
    | (exfalso; rcases w1 with w1 | w1 | w1 | w1 | w1; exact w1 (by assumption); all_goals omega)
    | (exfalso; simp_all; done)
    | trace_state
end Go.Eng
