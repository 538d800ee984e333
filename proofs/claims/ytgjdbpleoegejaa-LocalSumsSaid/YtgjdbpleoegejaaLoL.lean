/- Instructions that need no memory: Run. -/
import Derived.Test.YtgjdbpleoegejaaLoK
set_option linter.unusedVariables false
set_option linter.unusedSimpArgs false
namespace Go.Eng
open Go Go.Proofs

abbrev apAt (s : Int) (code : List Ins) (t : Th) : Th × Int := apF t s (insAt code t).1 (insAt code t).2.1 (insAt code t).2.2.1 (insAt code t).2.2.2
theorem runW_stop {s : Int} {code : List Ins} {k : Nat} {t : Th} {n : Nat} (h : k = 0 ∨ ¬ t.pc < (code.length : Int) ∨ ¬ (apAt s code t).2 = 0) : runW s code k t n = (t, n) := by
  cases k with
  | zero => rfl
  | succ k =>
    rw [runW, if_neg]
    rintro ⟨h1, h2⟩
    rcases h with h | h | h
    · omega
    · exact h h1
    · exact h h2
theorem runW_go {s : Int} {code : List Ins} {k : Nat} {t : Th} {n : Nat} (h0 : 0 < k) (h1 : t.pc < (code.length : Int)) (h2 : (apAt s code t).2 = 0) : runW s code k t n = runW s code (k - 1) (apAt s code t).1 (n + 1) := by
  cases k with
  | zero => omega
  | succ k => rw [runW, if_pos ⟨h1, h2⟩]; rfl
/-- What is so at each instruction. -/
structure RunI (t0 : Th) (s : Int) (code : List Ins) (most : Int) (t : Th) (n : Nat) : Prop where
  r : readyF t s = 0
  le : (n : Int) ≤ most
  run : runW s code most.toNat t0 0 = runW s code (most.toNat - n) t n
theorem RunI.start {t : Th} {s : Int} {code : List Ins} {most : Int} (h : readyF t s = 0) (hm : 0 ≤ most) : RunI t s code most t 0 := ⟨h, hm, rfl⟩
theorem RunI.small {t0 : Th} {s : Int} {code : List Ins} {most : Int} {t : Th} {n : Nat} (h : RunI t0 s code most t n) : SmallT t := small_R (readyF_iff.1 h.r).1
theorem RunI.pc {t0 : Th} {s : Int} {code : List Ins} {most : Int} {t : Th} {n : Nat} (h : RunI t0 s code most t n) : 0 ≤ t.pc ∧ t.pc ≤ 1000 := placeF_iff.1 (thR_iff.1 (readyF_iff.1 h.r).1).1
theorem RunI.go {t0 : Th} {s : Int} {code : List Ins} {most : Int} {t : Th} {n : Nat} (h : RunI t0 s code most t n) (hn : (n : Int) < most) (h1 : t.pc < (code.length : Int)) (h2 : (apAt s code t).2 = 0) : RunI t0 s code most (apAt s code t).1 (n + 1) := by
  refine ⟨?_, by omega, ?_⟩
  · exact ap_ready (t := t) (x := (apAt s code t).1) (Prod.ext rfl h2)
  · rw [h.run, runW_go (by omega) h1 h2, Nat.sub_sub]
theorem RunI.stop {t0 : Th} {s : Int} {code : List Ins} {most : Int} {t : Th} {n : Nat} (h : RunI t0 s code most t n) (hs : ¬ (n : Int) < most ∨ ¬ t.pc < (code.length : Int) ∨ ¬ (apAt s code t).2 = 0) : runW s code most.toNat t0 0 = (t, n) := by
  rw [h.run]
  exact runW_stop (by have := h.le; omega)
theorem RunI.stop1 {t0 : Th} {s : Int} {code : List Ins} {most : Int} {t : Th} {n : Nat} (h : RunI t0 s code most t n) (hs : ¬ (n : Int) < most ∨ ¬ t.pc < (code.length : Int) ∨ ¬ (apAt s code t).2 = 0) : (runW s code most.toNat t0 0).1 = t ∧ (runW s code most.toNat t0 0).2 = n := by
  rw [h.stop hs]; exact ⟨rfl, rfl⟩
theorem runF_A {t : Th} {s : Int} {code : List Ins} {most : Int} (h : readyF t s = 1 ∨ ¬ (0 ≤ most ∧ most ≤ 1000)) : runF t s code most = (th0, 0, 1) := by rw [runF, if_pos h]
theorem runF_B {t : Th} {s : Int} {code : List Ins} {most : Int} (h : ¬ (readyF t s = 1 ∨ ¬ (0 ≤ most ∧ most ≤ 1000))) (h2 : readyF t s = 9) : runF t s code most = (th0, 0, 9) := by rw [runF, if_neg h, if_pos h2]
theorem runF_C {t : Th} {s : Int} {code : List Ins} {most : Int} (h : ¬ (readyF t s = 1 ∨ ¬ (0 ≤ most ∧ most ≤ 1000))) (h2 : ¬ readyF t s = 9) : runF t s code most = ((runW s code most.toNat t 0).1, (runW s code most.toNat t 0).2, 0) := by rw [runF, if_neg h, if_neg h2]
def sRun : FSpec := spec (Th × Int × List Ins × Int) (fun (t, s, code, most) => [.agg (thC t), .i s, .c (codeS code), .i most]) (fun (t, _, code, _) => SmallT t ∧ code.length ≤ 1000000)
  fun (t, s, code, most) => .tup [rTh (runF t s code most).1, .c (.i (runF t s code most).2.1), .c (.i (runF t s code most).2.2)]
def L7 : List (Nat × FSpec) := (21, sApply) :: L5
theorem L7_ok : GOK Try.prog (tab L7) := gok_cons apply_ok L5_ok
set_option maxHeartbeats 8000000 in
set_option maxRecDepth 100000 in
theorem run_ok : Meets Try.prog 27 sRun := by
  refine meets_plain L7_ok rfl [] (fn := Try.f27) rfl rfl rfl (by decide) fun ⟨⟨pc, r0, r1, r2, r3, r4, r5, r6, r7, fs, st, fa, lf⟩, s, code, most⟩ hh => ?_
  have hS : SmallT ⟨pc, r0, r1, r2, r3, r4, r5, r6, r7, fs, st, fa, lf⟩ := hh.1
  have hc : code.length ≤ 1000000 := hh.2
  clear hh
  by_cases hA : readyF ⟨pc, r0, r1, r2, r3, r4, r5, r6, r7, fs, st, fa, lf⟩ s = 1 ∨ ¬ (0 ≤ most ∧ most ≤ 1000)
  · show bodyK Try.prog _ _ _ _ sRun (⟨pc, r0, r1, r2, r3, r4, r5, r6, r7, fs, st, fa, lf⟩, s, code, most)
    have e1 : sRun.res (⟨pc, r0, r1, r2, r3, r4, r5, r6, r7, fs, st, fa, lf⟩, s, code, most) = .tup [rTh th0, .c (.i 0), .c (.i 1)] := by show RV.tup _ = _; rw [runF_A (t := ⟨pc, r0, r1, r2, r3, r4, r5, r6, r7, fs, st, fa, lf⟩) hA]; rfl
    unfold bodyK
    rw [e1]
    clear e1
    have hI : (0 ≤ most ∧ most ≤ 1000) → inF most 0 1000 = true := inF_t
    have hI' : ¬ (0 ≤ most ∧ most ≤ 1000) → inF most 0 1000 = false := inF_f
    repeat' (first | (intro h; first | exact Bool.noConfusion h | (guard_hyp h : true = true; clear h) | (guard_hyp h : false = false; clear h) | (simp only [decide_eq_true_eq, decide_eq_false_iff_not, beq_iff_eq, beq_eq_false_iff_ne, bne_iff_ne, bne_eq_false_iff_eq, Bool.not_eq_true', Bool.not_eq_false', ne_eq, Classical.not_not, Bool.not_true, Bool.not_false, beqL_iff, beqL_ff, List.cons.injEq, and_true] at h) | skip) | ((conv => whnf) <;> (first | exact True.intro | apply br_rec | apply And.intro | apply CutE.goTh1 | apply EntP.k0 | apply EntP.k1 | apply EntP.k2 | apply EntP.k3 | apply EntP.k4 | apply EntP.k5 | apply EntP.k6 | apply DrawP.go | (apply AnyP.mk; kernel_rfl) | (refine AggP.go 2 rfl (by kernel_rfl) ?_) | (refine AggP.go 1 rfl (by kernel_rfl) ?_) | (refine AggP.go 3 rfl (by kernel_rfl) ?_) | (refine AggP.go 4 rfl (by kernel_rfl) ?_) | (refine AggP.go 5 rfl (by kernel_rfl) ?_) | (refine AggP.go 8 rfl (by kernel_rfl) ?_) | (refine AggP.go 11 rfl (by kernel_rfl) ?_) | apply CallP.own0 | apply CallP.own1 | apply CallP.own2 | apply CallP.own3 | apply CallP.nb | apply CutE.go0 | apply CutE.go7 | apply CutE.go6 | apply CutE.go5 | apply CutE.go4 | apply CutE.go3 | apply CutE.go2 | apply CutE.go1 | apply RoP.id | apply wrapS | (with_reducible exact lenNil) | apply Eq.refl)) | ((first | (with_reducible show rvEq _ _ _ _) | (with_reducible show svEq _ _ _ _) | (with_reducible show cellEq _ _ _ _) | (with_reducible show blkEq _ _ _)); conv => whnf))
    all_goals try simp only at *
    all_goals first
      | exact hS.1
      | exact hS.2
      | omega
      | (exfalso; omega)
      | (exfalso; rcases hA with hA | hA; omega; exact Bool.noConfusion ((hI' hA).symm.trans (by assumption)))
      | trace_state
  by_cases hB : readyF ⟨pc, r0, r1, r2, r3, r4, r5, r6, r7, fs, st, fa, lf⟩ s = 9
  · show bodyK Try.prog _ _ _ _ sRun (⟨pc, r0, r1, r2, r3, r4, r5, r6, r7, fs, st, fa, lf⟩, s, code, most)
    have e1 : sRun.res (⟨pc, r0, r1, r2, r3, r4, r5, r6, r7, fs, st, fa, lf⟩, s, code, most) = .tup [rTh th0, .c (.i 0), .c (.i 9)] := by show RV.tup _ = _; rw [runF_B (t := ⟨pc, r0, r1, r2, r3, r4, r5, r6, r7, fs, st, fa, lf⟩) hA hB]; rfl
    unfold bodyK
    rw [e1]
    clear e1
    have hI : inF most 0 1000 = true := inF_t (by omega)
    repeat' (first | (intro h; first | exact Bool.noConfusion h | (guard_hyp h : true = true; clear h) | (guard_hyp h : false = false; clear h) | (simp only [decide_eq_true_eq, decide_eq_false_iff_not, beq_iff_eq, beq_eq_false_iff_ne, bne_iff_ne, bne_eq_false_iff_eq, Bool.not_eq_true', Bool.not_eq_false', ne_eq, Classical.not_not, Bool.not_true, Bool.not_false, beqL_iff, beqL_ff, List.cons.injEq, and_true] at h) | skip) | ((conv => whnf) <;> (first | exact True.intro | apply br_rec | apply And.intro | apply CutE.goTh1 | apply EntP.k0 | apply EntP.k1 | apply EntP.k2 | apply EntP.k3 | apply EntP.k4 | apply EntP.k5 | apply EntP.k6 | apply DrawP.go | (apply AnyP.mk; kernel_rfl) | (refine AggP.go 2 rfl (by kernel_rfl) ?_) | (refine AggP.go 1 rfl (by kernel_rfl) ?_) | (refine AggP.go 3 rfl (by kernel_rfl) ?_) | (refine AggP.go 4 rfl (by kernel_rfl) ?_) | (refine AggP.go 5 rfl (by kernel_rfl) ?_) | (refine AggP.go 8 rfl (by kernel_rfl) ?_) | (refine AggP.go 11 rfl (by kernel_rfl) ?_) | apply CallP.own0 | apply CallP.own1 | apply CallP.own2 | apply CallP.own3 | apply CallP.nb | apply CutE.go0 | apply CutE.go7 | apply CutE.go6 | apply CutE.go5 | apply CutE.go4 | apply CutE.go3 | apply CutE.go2 | apply CutE.go1 | apply RoP.id | apply wrapS | (with_reducible exact lenNil) | apply Eq.refl)) | ((first | (with_reducible show rvEq _ _ _ _) | (with_reducible show svEq _ _ _ _) | (with_reducible show cellEq _ _ _ _) | (with_reducible show blkEq _ _ _)); conv => whnf))
    all_goals try simp only at *
    all_goals first
      | exact hS.1
      | exact hS.2
      | omega
      | exact hB.symm
      | (exfalso; omega)
      | (exfalso; exact Bool.noConfusion (hI.symm.trans (by assumption)))
      | trace_state
  have hR : readyF ⟨pc, r0, r1, r2, r3, r4, r5, r6, r7, fs, st, fa, lf⟩ s = 0 := by rcases readyF_or ⟨pc, r0, r1, r2, r3, r4, r5, r6, r7, fs, st, fa, lf⟩ s with h | h | h <;> first | exact h | exact absurd (Or.inl h) hA | exact absurd h hB
  have hm : 0 ≤ most ∧ most ≤ 1000 := by
    by_cases h : 0 ≤ most ∧ most ≤ 1000
    · exact h
    · exact absurd (Or.inr h) hA
  show bodyK Try.prog _ _ _ _ sRun (⟨pc, r0, r1, r2, r3, r4, r5, r6, r7, fs, st, fa, lf⟩, s, code, most)
  have e1 : sRun.res (⟨pc, r0, r1, r2, r3, r4, r5, r6, r7, fs, st, fa, lf⟩, s, code, most) = .tup [rTh (runW s code most.toNat ⟨pc, r0, r1, r2, r3, r4, r5, r6, r7, fs, st, fa, lf⟩ 0).1, .c (.i (runW s code most.toNat ⟨pc, r0, r1, r2, r3, r4, r5, r6, r7, fs, st, fa, lf⟩ 0).2), .c (.i 0)] := by show RV.tup _ = _; rw [runF_C (t := ⟨pc, r0, r1, r2, r3, r4, r5, r6, r7, fs, st, fa, lf⟩) hA hB]
  unfold bodyK
  rw [e1]
  clear e1
  have hI : inF most 0 1000 = true := inF_t hm
  repeat' (first | (intro h; first | exact Bool.noConfusion h | (guard_hyp h : true = true; clear h) | (guard_hyp h : false = false; clear h) | (simp only [decide_eq_true_eq, decide_eq_false_iff_not, beq_iff_eq, beq_eq_false_iff_ne, bne_iff_ne, bne_eq_false_iff_eq, Bool.not_eq_true', Bool.not_eq_false', ne_eq, Classical.not_not, Bool.not_true, Bool.not_false, beqL_iff, beqL_ff, List.cons.injEq, and_true] at h) | skip) | ((conv => whnf) <;> (first | exact True.intro | apply br_rec | apply And.intro | apply CutE.goTh1 | apply EntP.k0 | apply EntP.k1 | apply EntP.k2 | apply EntP.k3 | apply EntP.k4 | apply EntP.k5 | apply EntP.k6 | apply DrawP.go | (apply AnyP.mk; kernel_rfl) | (refine AggP.go 2 rfl (by kernel_rfl) ?_) | (refine AggP.go 1 rfl (by kernel_rfl) ?_) | (refine AggP.go 3 rfl (by kernel_rfl) ?_) | (refine AggP.go 4 rfl (by kernel_rfl) ?_) | (refine AggP.go 5 rfl (by kernel_rfl) ?_) | (refine AggP.go 8 rfl (by kernel_rfl) ?_) | (refine AggP.go 11 rfl (by kernel_rfl) ?_) | apply CallP.own0 | apply CallP.own1 | apply CallP.own2 | apply CallP.own3 | apply CallP.nb | apply CutE.go0 | apply CutE.go7 | apply CutE.go6 | apply CutE.go5 | apply CutE.go4 | apply CutE.go3 | apply CutE.go2 | apply CutE.go1 | apply RoP.id | apply wrapS | (with_reducible exact lenNil) | apply Eq.refl)) | ((first | (with_reducible show rvEq _ _ _ _) | (with_reducible show svEq _ _ _ _) | (with_reducible show cellEq _ _ _ _) | (with_reducible show blkEq _ _ _)); conv => whnf))
  all_goals try simp only at *
  all_goals try first
    | exact hS.1
    | exact hS.2
    | (exfalso; omega)
    | (exfalso; exact Bool.noConfusion (hI.symm.trans (by assumption)))
  apply LoopP.up (G := Th × Nat) (fun g => RunI ⟨pc, r0, r1, r2, r3, r4, r5, r6, r7, fs, st, fa, lf⟩ s code most g.1 g.2) [1, 2, 3, 4, 8, 12] (fun g => [(12, .i g.2)]) (fun g => [(0, .row 27 (thC g.1))]) 2 (fun g => most.toNat - g.2)
  apply And.intro
  · refine CutE.at (⟨pc, r0, r1, r2, r3, r4, r5, r6, r7, fs, st, fa, lf⟩, 0) ?_
    repeat' (first | (intro h; first | exact Bool.noConfusion h | (guard_hyp h : true = true; clear h) | (guard_hyp h : false = false; clear h) | (simp only [decide_eq_true_eq, decide_eq_false_iff_not, beq_iff_eq, beq_eq_false_iff_ne, bne_iff_ne, bne_eq_false_iff_eq, Bool.not_eq_true', Bool.not_eq_false', ne_eq, Classical.not_not, Bool.not_true, Bool.not_false, beqL_iff, beqL_ff, List.cons.injEq, and_true] at h) | skip) | ((conv => whnf) <;> (first | exact True.intro | apply br_rec | apply And.intro | apply EntP.k0 | apply EntP.k1 | apply EntP.k2 | apply EntP.k3 | apply EntP.k4 | apply EntP.k5 | apply EntP.k6 | apply DrawP.go | (apply AnyP.mk; kernel_rfl) | (refine AggP.go 2 rfl (by kernel_rfl) ?_) | (refine AggP.go 1 rfl (by kernel_rfl) ?_) | (refine AggP.go 3 rfl (by kernel_rfl) ?_) | (refine AggP.go 4 rfl (by kernel_rfl) ?_) | (refine AggP.go 5 rfl (by kernel_rfl) ?_) | (refine AggP.go 8 rfl (by kernel_rfl) ?_) | (refine AggP.go 11 rfl (by kernel_rfl) ?_) | apply CallP.own0 | apply CallP.own1 | apply CallP.own2 | apply CallP.own3 | apply CallP.nb | apply CutE.go0 | apply CutE.go7 | apply CutE.go6 | apply CutE.go5 | apply CutE.go4 | apply CutE.go3 | apply CutE.go2 | apply CutE.go1 | apply RoP.id | apply wrapS | (with_reducible exact lenNil) | apply Eq.refl)) | ((first | (with_reducible show rvEq _ _ _ _) | (with_reducible show svEq _ _ _ _) | (with_reducible show cellEq _ _ _ _) | (with_reducible show blkEq _ _ _)); conv => whnf))
    all_goals first | exact RunI.start hR hm.1 | rfl | trace_state
  rintro ⟨⟨pc', r0', r1', r2', r3', r4', r5', r6', r7', fs', st', fa', lf'⟩, n⟩ hi
  have hi : RunI ⟨pc, r0, r1, r2, r3, r4, r5, r6, r7, fs, st, fa, lf⟩ s code most ⟨pc', r0', r1', r2', r3', r4', r5', r6', r7', fs', st', fa', lf'⟩ n := hi
  have hS' := hi.small
  have hp := hi.pc
  have hp : 0 ≤ pc' ∧ pc' ≤ 1000 := hp
  have hle : (n : Int) ≤ most := hi.le
  repeat' (first | (intro h; first | exact Bool.noConfusion h | (guard_hyp h : true = true; clear h) | (guard_hyp h : false = false; clear h) | (simp only [decide_eq_true_eq, decide_eq_false_iff_not, beq_iff_eq, beq_eq_false_iff_ne, bne_iff_ne, bne_eq_false_iff_eq, Bool.not_eq_true', Bool.not_eq_false', ne_eq, Classical.not_not, Bool.not_true, Bool.not_false, beqL_iff, beqL_ff, List.cons.injEq, and_true] at h) | skip) | ((conv => whnf) <;> (first | exact True.intro | apply br_rec | apply And.intro | refine CutE.at (A := Th × Nat) ((apAt s code ⟨pc', r0', r1', r2', r3', r4', r5', r6', r7', fs', st', fa', lf'⟩).1, n + 1) ?_ | apply CutE.goAp | apply EntP.k0 | apply EntP.k1 | apply EntP.k2 | apply EntP.k3 | apply EntP.k4 | apply EntP.k5 | apply EntP.k6 | apply DrawP.go | (apply AnyP.mk; kernel_rfl) | (refine AggP.go 2 rfl (by kernel_rfl) ?_) | (refine AggP.go 1 rfl (by kernel_rfl) ?_) | (refine AggP.go 3 rfl (by kernel_rfl) ?_) | (refine AggP.go 4 rfl (by kernel_rfl) ?_) | (refine AggP.go 5 rfl (by kernel_rfl) ?_) | (refine AggP.go 8 rfl (by kernel_rfl) ?_) | (refine AggP.go 11 rfl (by kernel_rfl) ?_) | apply CallP.own0 | apply CallP.own1 | apply CallP.own2 | apply CallP.own3 | apply CallP.nb | apply CutE.go0 | apply CutE.go7 | apply CutE.go6 | apply CutE.go5 | apply CutE.go4 | apply CutE.go3 | apply CutE.go2 | apply CutE.go1 | apply RoP.id | apply wrapS | (with_reducible exact lenNil) | apply Eq.refl)) | ((first | (with_reducible show rvEq _ _ _ _) | (with_reducible show svEq _ _ _ _) | (with_reducible show cellEq _ _ _ _) | (with_reducible show blkEq _ _ _)); conv => whnf))
  all_goals try simp only at *
  all_goals first
    | exact hS'.1
    | exact hS'.2
    | omega
    | (show most.toNat - (n + 1) < most.toNat - n; omega)
    | exact hi.go (by omega) (by assumption) (by assumption)
    | (rw [hi.stop (.inl (by omega))]; done)
    | (rw [hi.stop (.inr (.inl (by assumption)))]; done)
    | (rw [hi.stop (.inr (.inr (by assumption)))]; done)
    | trace_state
end Go.Eng
