/- LocalDoes and LocalRuns, walked. -/
import Derived.Test.YtgjdbpleoegejaaLoM
import Derived.Test.YtgjdbpleoegejaaFrG
set_option linter.unusedVariables false
set_option linter.unusedSimpArgs false
namespace Go.Eng
open Go Go.Proofs

def LR : List (Nat × FSpec) := (20, sFew7) :: (25, sAlive7) :: (17, sThSame) :: (15, sThR) :: (22, sRdy) :: (23, sLoc) :: (24, sMayI) ::
  (26, sRApply) :: (28, sRRun) :: (27, sRun) :: L7
theorem LR_ok : GOK Try.prog (tab LR) := gok_cons few7_ok (gok_cons alive7_ok (gok_cons thSame_ok (gok_cons rthR_ok (gok_cons rdy_ok (gok_cons loc_ok (gok_cons mayI_ok (gok_cons rapply_ok (gok_cons rrun_ok (gok_cons run_ok L7_ok)))))))))
theorem small_ap {t : Th} {s op a b c : Int} (h : t.fs.length ≤ 1000 ∧ t.lf.length ≤ 1000) : SmallT (apF t s op a b c).1 := by
  unfold apF
  split
  · exact small0
  split
  · exact small0
  split
  · exact small0
  split
  · exact small0
  unfold applyF
  split
  · exact small_call h a
  split
  · exact small_back h
  · obtain ⟨e1, e2, _⟩ := opF_rest t s op a b c
    exact ⟨by show (opF t s op a b c).fs.length ≤ _; rw [e1]; omega, by show (opF t s op a b c).lf.length ≤ _; rw [e2]; omega⟩
theorem runW_inv {s : Int} {code : List Ins} : ∀ (k : Nat) (t : Th) (n : Nat), readyF t s = 0 → readyF (runW s code k t n).1 s = 0
  | 0, t, n, h => h
  | k + 1, t, n, h => by
    rw [runW]
    split
    · rename_i hh
      exact runW_inv k _ _ (ap_ready (Prod.ext rfl hh.2))
    · exact h
theorem small_run {t : Th} {s : Int} {code : List Ins} {most : Int} : SmallT (runF t s code most).1 := by
  unfold runF
  split
  · exact small0
  split
  · exact small0
  · rename_i h1 h2
    have hR : readyF t s = 0 := by rcases readyF_or t s with h | h | h <;> first | exact h | exact absurd (Or.inl h) h1 | exact absurd h h2
    exact small_R (readyF_iff.1 (runW_inv most.toNat t 0 hR)).1
theorem rdy_is {t : Th} {s : Int} (h1 : thR t = true) (h2 : 0 ≤ s ∧ s ≤ 7) : readyF t s = if rdyF t = true then 0 else 9 := by
  rw [readyF, if_pos ⟨h1, inF_t h2⟩]
  simp [rdyF]
theorem rdy_not {t : Th} {s : Int} (h : ¬ (thR t = true ∧ 0 ≤ s ∧ s ≤ 7)) : readyF t s = 1 := by
  rw [readyF, if_neg]
  rintro ⟨h1, h2⟩
  exact h ⟨h1, inF_iff.1 h2⟩
/-- What the document says of an instruction. -/
theorem ap_want1 {t : Th} {s op a b c : Int} (h : ¬ thR t = true ∨ t.pc = 1000 ∨ s < 0 ∨ 7 < s) : apF t s op a b c = (th0, 1) := by
  refine apF_A ?_
  by_cases h2 : t.pc = 1000
  · exact .inr h2
  · refine .inl (rdy_not fun ⟨h3, h4, h5⟩ => ?_)
    rcases h with h | h | h | h
    · exact h h3
    · exact h2 h
    · omega
    · omega
theorem ap_want2 {t : Th} {s op a b c : Int} (h1 : thR t = true) (h2 : ¬ t.pc = 1000) (h3 : 0 ≤ s ∧ s ≤ 7) (h : rdyF t = false) : apF t s op a b c = (th0, 9) := by
  have e := rdy_is h1 h3
  rw [h] at e
  have e : readyF t s = 9 := e
  exact apF_B (fun h' => by rcases h' with h' | h'; omega; exact h2 h') e
theorem rdy_yes {t : Th} {s : Int} (h1 : thR t = true) (h3 : 0 ≤ s ∧ s ≤ 7) (h : rdyF t = true) : readyF t s = 0 := by
  rw [rdy_is h1 h3, if_pos h]
theorem ap_want3 {t : Th} {s op a b c : Int} (h1 : thR t = true) (h2 : ¬ t.pc = 1000) (h3 : 0 ≤ s ∧ s ≤ 7) (h : rdyF t = true) (h4 : locF op = false) : apF t s op a b c = (th0, 10) := by
  have e := rdy_yes h1 h3 h
  exact apF_C (fun h' => by rcases h' with h' | h'; omega; exact h2 h') (by omega) (by rw [← loc_in]; exact h4)
theorem ap_want4 {t : Th} {s op a b c : Int} (h1 : thR t = true) (h2 : ¬ t.pc = 1000) (h3 : 0 ≤ s ∧ s ≤ 7) (h : rdyF t = true) (h4 : locF op = true) (h5 : mayI op a b c = false) : apF t s op a b c = (th0, 3) := by
  have e := rdy_yes h1 h3 h
  exact apF_D (fun h' => by rcases h' with h' | h'; omega; exact h2 h') (by omega) (by rw [← loc_in, h4]; exact Bool.noConfusion) h5
theorem ap_want5 {t : Th} {s op a b c : Int} (h1 : thR t = true) (h2 : ¬ t.pc = 1000) (h3 : 0 ≤ s ∧ s ≤ 7) (h : rdyF t = true) (h4 : locF op = true) (h5 : mayI op a b c = true) : apF t s op a b c = applyF t s op a b c :=
  ap_is (rdy_yes h1 h3 h) h2 h4 h5
def sLDoes : FSpec := spec (Th × Int × Ins) (fun (t, s, i) => [.agg (thC t), .i s, .agg (encIns i)]) (fun _ => True) fun _ => .b true
set_option maxHeartbeats 8000000 in
set_option maxRecDepth 100000 in
theorem ldoes_ok : Meets Try.prog 6 sLDoes := by
  refine meets_plain LR_ok rfl [2] (fn := Try.f6) rfl rfl rfl (by decide) fun ⟨⟨pc, r0, r1, r2, r3, r4, r5, r6, r7, fs, st, fa, lf⟩, s, op, a, b, c⟩ _ => ?_
  have hw : (fs.take 8).length ≤ 8 := List.length_take_le _ _
  have hg : (lf.take 10).length ≤ 10 := List.length_take_le _ _
  repeat' (first | (intro h; first | exact Bool.noConfusion h | (guard_hyp h : true = true; clear h) | (guard_hyp h : false = false; clear h) | (simp only [decide_eq_true_eq, decide_eq_false_iff_not, beq_iff_eq, beq_eq_false_iff_ne, bne_iff_ne, bne_eq_false_iff_eq, Bool.not_eq_true', Bool.not_eq_false', ne_eq, Classical.not_not, Bool.not_true, Bool.not_false, beqL_iff, beqL_ff, List.cons.injEq, and_true] at h) | skip) | ((conv => whnf) <;> (first | exact True.intro | apply br_rec | apply And.intro | apply EntP.k0 | apply EntP.k1 | apply EntP.k2 | apply EntP.k3 | apply EntP.k4 | apply EntP.k5 | apply EntP.k6 | apply DrawP.go | (apply AnyP.mk; kernel_rfl) | (refine AggP.go 2 rfl (by kernel_rfl) ?_) | (refine AggP.go 1 rfl (by kernel_rfl) ?_) | (refine AggP.go 3 rfl (by kernel_rfl) ?_) | (refine AggP.go 4 rfl (by kernel_rfl) ?_) | (refine AggP.go 5 rfl (by kernel_rfl) ?_) | (refine AggP.go 8 rfl (by kernel_rfl) ?_) | (refine AggP.go 11 rfl (by kernel_rfl) ?_) | apply CallP.own0 | apply CallP.own1 | apply CallP.own2 | apply CallP.own3 | apply CallP.nb | apply CutE.go0 | apply CutE.go7 | apply CutE.go6 | apply CutE.go5 | apply CutE.go4 | apply CutE.go3 | apply CutE.go2 | apply CutE.go1 | apply RoP.id | apply wrapS | (with_reducible exact lenNil) | apply Eq.refl)) | ((first | (with_reducible show rvEq _ _ _ _) | (with_reducible show svEq _ _ _ _) | (with_reducible show cellEq _ _ _ _) | (with_reducible show blkEq _ _ _)); conv => whnf))
  apply CutP.up (G := Unit) (fun _ => True) [1, 3, 5] (fun _ => []) (fun _ => [(0, .row 27 (thC ⟨pc, r0, r1, r2, r3, r4, r5, r6, r7, fs.take 8, st, fa, lf.take 10⟩))]) 2
  apply And.intro
  · repeat' (first | (intro h; first | exact Bool.noConfusion h | (guard_hyp h : true = true; clear h) | (guard_hyp h : false = false; clear h) | (simp only [decide_eq_true_eq, decide_eq_false_iff_not, beq_iff_eq, beq_eq_false_iff_ne, bne_iff_ne, bne_eq_false_iff_eq, Bool.not_eq_true', Bool.not_eq_false', ne_eq, Classical.not_not, Bool.not_true, Bool.not_false, beqL_iff, beqL_ff, List.cons.injEq, and_true] at h) | skip) | ((conv => whnf) <;> (first | exact True.intro | apply br_rec | apply And.intro | apply EntP.k0 | apply EntP.k1 | apply EntP.k2 | apply EntP.k3 | apply EntP.k4 | apply EntP.k5 | apply EntP.k6 | apply DrawP.go | (apply AnyP.mk; kernel_rfl) | (refine AggP.go 2 rfl (by kernel_rfl) ?_) | (refine AggP.go 1 rfl (by kernel_rfl) ?_) | (refine AggP.go 3 rfl (by kernel_rfl) ?_) | (refine AggP.go 4 rfl (by kernel_rfl) ?_) | (refine AggP.go 5 rfl (by kernel_rfl) ?_) | (refine AggP.go 8 rfl (by kernel_rfl) ?_) | (refine AggP.go 11 rfl (by kernel_rfl) ?_) | apply CallP.own0 | apply CallP.own1 | apply CallP.own2 | apply CallP.own3 | apply CallP.nb | apply CutE.go0 | apply CutE.go7 | apply CutE.go6 | apply CutE.go5 | apply CutE.go4 | apply CutE.go3 | apply CutE.go2 | apply CutE.go1 | apply RoP.id | apply wrapS | (with_reducible exact lenNil) | apply Eq.refl)) | ((first | (with_reducible show rvEq _ _ _ _) | (with_reducible show svEq _ _ _ _) | (with_reducible show cellEq _ _ _ _) | (with_reducible show blkEq _ _ _)); conv => whnf))
  rintro ⟨⟩ _
  generalize fs.take 8 = fs at *
  generalize lf.take 10 = lf at *
  have hN := small_ap (t := ⟨pc, r0, r1, r2, r3, r4, r5, r6, r7, fs, st, fa, lf⟩) (s := s) (op := op) (a := a) (b := b) (c := c) ⟨by show fs.length ≤ 1000; omega, by show lf.length ≤ 1000; omega⟩
  have hS : SmallT ⟨pc, r0, r1, r2, r3, r4, r5, r6, r7, fs, st, fa, lf⟩ := ⟨by show fs.length ≤ 1000000; omega, by show lf.length ≤ 1000000; omega⟩
  have wants : (¬ thR ⟨pc, r0, r1, r2, r3, r4, r5, r6, r7, fs, st, fa, lf⟩ = true ∨ pc = 1000 ∨ s < 0 ∨ 7 < s) ∧ apF ⟨pc, r0, r1, r2, r3, r4, r5, r6, r7, fs, st, fa, lf⟩ s op a b c = (th0, 1) ∨ thR ⟨pc, r0, r1, r2, r3, r4, r5, r6, r7, fs, st, fa, lf⟩ = true ∧ ¬ pc = 1000 ∧ 0 ≤ s ∧ s ≤ 7 ∧ (rdyF ⟨pc, r0, r1, r2, r3, r4, r5, r6, r7, fs, st, fa, lf⟩ = false ∧ apF ⟨pc, r0, r1, r2, r3, r4, r5, r6, r7, fs, st, fa, lf⟩ s op a b c = (th0, 9) ∨ rdyF ⟨pc, r0, r1, r2, r3, r4, r5, r6, r7, fs, st, fa, lf⟩ = true ∧ (
      locF op = false ∧ apF ⟨pc, r0, r1, r2, r3, r4, r5, r6, r7, fs, st, fa, lf⟩ s op a b c = (th0, 10) ∨ locF op = true ∧ (mayI op a b c = false ∧ apF ⟨pc, r0, r1, r2, r3, r4, r5, r6, r7, fs, st, fa, lf⟩ s op a b c = (th0, 3) ∨ mayI op a b c = true ∧ apF ⟨pc, r0, r1, r2, r3, r4, r5, r6, r7, fs, st, fa, lf⟩ s op a b c = applyF ⟨pc, r0, r1, r2, r3, r4, r5, r6, r7, fs, st, fa, lf⟩ s op a b c))) := by
    by_cases h1 : ¬ thR ⟨pc, r0, r1, r2, r3, r4, r5, r6, r7, fs, st, fa, lf⟩ = true ∨ pc = 1000 ∨ s < 0 ∨ 7 < s
    · exact .inl ⟨h1, ap_want1 h1⟩
    have hr : thR ⟨pc, r0, r1, r2, r3, r4, r5, r6, r7, fs, st, fa, lf⟩ = true := Classical.byContradiction fun h => h1 (.inl h)
    have hp : ¬ pc = 1000 := fun h => h1 (.inr (.inl h))
    have hs : 0 ≤ s ∧ s ≤ 7 := by omega
    refine .inr ⟨hr, hp, hs.1, hs.2, ?_⟩
    cases h2 : rdyF ⟨pc, r0, r1, r2, r3, r4, r5, r6, r7, fs, st, fa, lf⟩ with
    | false => exact .inl ⟨rfl, ap_want2 hr hp hs h2⟩
    | true =>
      refine .inr ⟨rfl, ?_⟩
      cases h3 : locF op with
      | false => exact .inl ⟨rfl, ap_want3 hr hp hs h2 h3⟩
      | true =>
        refine .inr ⟨rfl, ?_⟩
        cases h4 : mayI op a b c with
        | false => exact .inl ⟨rfl, ap_want4 hr hp hs h2 h3 h4⟩
        | true => exact .inr ⟨rfl, ap_want5 hr hp hs h2 h3 h4⟩
  repeat' (first | (intro h; first | exact Bool.noConfusion h | (guard_hyp h : true = true; clear h) | (guard_hyp h : false = false; clear h) | (simp only [decide_eq_true_eq, decide_eq_false_iff_not, beq_iff_eq, beq_eq_false_iff_ne, bne_iff_ne, bne_eq_false_iff_eq, Bool.not_eq_true', Bool.not_eq_false', ne_eq, Classical.not_not, Bool.not_true, Bool.not_false, beqL_iff, beqL_ff, List.cons.injEq, and_true] at h) | skip) | ((conv => whnf) <;> (first | exact True.intro | apply br_rec | apply And.intro | apply CutE.goTh2 | apply CutE.goAp | apply CutE.goTh1 | apply CutE.goTh | apply EntP.k0 | apply EntP.k1 | apply EntP.k2 | apply EntP.k3 | apply EntP.k4 | apply EntP.k5 | apply EntP.k6 | apply DrawP.go | (apply AnyP.mk; kernel_rfl) | (refine AggP.go 2 rfl (by kernel_rfl) ?_) | (refine AggP.go 1 rfl (by kernel_rfl) ?_) | (refine AggP.go 3 rfl (by kernel_rfl) ?_) | (refine AggP.go 4 rfl (by kernel_rfl) ?_) | (refine AggP.go 5 rfl (by kernel_rfl) ?_) | (refine AggP.go 8 rfl (by kernel_rfl) ?_) | (refine AggP.go 11 rfl (by kernel_rfl) ?_) | apply CallP.own0 | apply CallP.own1 | apply CallP.own2 | apply CallP.own3 | apply CallP.nb | apply CutE.go0 | apply CutE.go7 | apply CutE.go6 | apply CutE.go5 | apply CutE.go4 | apply CutE.go3 | apply CutE.go2 | apply CutE.go1 | apply RoP.id | apply wrapS | (with_reducible exact lenNil) | apply Eq.refl)) | ((first | (with_reducible show rvEq _ _ _ _) | (with_reducible show svEq _ _ _ _) | (with_reducible show cellEq _ _ _ _) | (with_reducible show blkEq _ _ _)); conv => whnf))
  all_goals try simp only at *
  all_goals try first
    | exact hS.1
    | exact hS.2
    | exact hN.1
    | exact hN.2
    | exact Nat.zero_le _
  all_goals (rcases wants with ⟨w1, w⟩ | ⟨w1, w2, w3, w4, ⟨w5, w⟩ | ⟨w5, ⟨w6, w⟩ | ⟨w6, ⟨w7, w⟩ | ⟨w7, w⟩⟩⟩⟩)
  all_goals try simp only [w] at *
  all_goals try simp only [w5] at *
  all_goals try simp only [w6] at *
  all_goals try simp only [w7] at *
  all_goals first
    | contradiction
    | exact hN.1
    | exact hN.2
    | omega
    | (exfalso; omega)
    | exact (thEq_self _).symm
    | assumption
    | (exfalso; exact Bool.noConfusion ((thEq_self _).symm.trans (by assumption)))
    | (exfalso; rcases w1 with w1 | w1 | w1 | w1; exact w1 (by assumption); all_goals omega)
    | (exfalso; simp_all; done)
    | trace_state
end Go.Eng
