/- PhaseRuns. -/
import Derived.Test.YthhangpcedbhdaaPhaseD
set_option linter.unusedVariables false
set_option linter.unusedSimpArgs false
namespace Go.Eng
open Go Go.Proofs

def deedsF (l : List Int) : Bool := l.all fun d => !decide (d < 0) && !decide (2 < d)
def sDeeds : FSpec := spec (List Int) (fun l => [.c (intsS l)]) (fun l => l.length ≤ 1000000) fun l => .b (deedsF l)
set_option maxHeartbeats 4000000 in
set_option maxRecDepth 100000 in
theorem deeds_ok : Meets Try.prog 34 sDeeds := by
  refine meets_plain T4_ok rfl [] (fn := Try.f34) rfl rfl rfl (by decide) fun l hl => ?_
  have hl' : l.length ≤ 1000000 := hl
  repeat' (first | (intro h; first | exact Bool.noConfusion h | (guard_hyp h : true = true; clear h) | (guard_hyp h : false = false; clear h) | (simp only [decide_eq_true_eq, decide_eq_false_iff_not, beq_iff_eq, beq_eq_false_iff_ne, bne_iff_ne, bne_eq_false_iff_eq, Bool.not_eq_true', Bool.not_eq_false', ne_eq, Classical.not_not, Bool.not_true, Bool.not_false] at h) | skip) | ((conv => whnf) <;> (first | exact True.intro | apply And.intro | apply EntP.go | apply DrawP.go | (apply AnyP.mk; kernel_rfl) | apply CallP.own1 | apply CallP.own2 | apply CallP.own3 | apply CallP.nb | apply CutE.go0 | apply CutE.go7 | apply CutE.go6 | apply CutE.go5 | apply CutE.go4 | apply CutE.go3 | apply CutE.go2 | apply CutE.go1 | apply wrapS | apply Eq.refl)) | ((first | (with_reducible show rvEq _ _ _ _) | (with_reducible show svEq _ _ _) | (with_reducible show cellEq _ _ _ _) | (with_reducible show blkEq _ _ _)); conv => whnf))
  apply LoopP.up (G := Nat) (fun k => k ≤ l.length ∧ deedsF l = deedsF (l.drop k)) [5, 6, 7] (fun k => [(7, .i k)]) (fun _ => []) 0 (fun k => l.length - k)
  apply And.intro
  · refine CutE.at 0 ?_
    repeat' (first | (intro h; first | exact Bool.noConfusion h | (guard_hyp h : true = true; clear h) | (guard_hyp h : false = false; clear h) | (simp only [decide_eq_true_eq, decide_eq_false_iff_not, beq_iff_eq, beq_eq_false_iff_ne, bne_iff_ne, bne_eq_false_iff_eq, Bool.not_eq_true', Bool.not_eq_false', ne_eq, Classical.not_not, Bool.not_true, Bool.not_false] at h) | skip) | ((conv => whnf) <;> (first | exact True.intro | apply And.intro | apply EntP.go | apply DrawP.go | (apply AnyP.mk; kernel_rfl) | apply CallP.own1 | apply CallP.own2 | apply CallP.own3 | apply CallP.nb | apply CutE.go0 | apply CutE.go7 | apply CutE.go6 | apply CutE.go5 | apply CutE.go4 | apply CutE.go3 | apply CutE.go2 | apply CutE.go1 | apply wrapS | apply Eq.refl)) | ((first | (with_reducible show rvEq _ _ _ _) | (with_reducible show svEq _ _ _) | (with_reducible show cellEq _ _ _ _) | (with_reducible show blkEq _ _ _)); conv => whnf))
    all_goals simp
  · intro k ⟨hk, hrun⟩
    have hd : k < l.length → l.drop k = l.getD k default :: l.drop (k + 1) := drop_getD
    repeat' (first | (intro h; first | exact Bool.noConfusion h | (guard_hyp h : true = true; clear h) | (guard_hyp h : false = false; clear h) | (simp only [decide_eq_true_eq, decide_eq_false_iff_not, beq_iff_eq, beq_eq_false_iff_ne, bne_iff_ne, bne_eq_false_iff_eq, Bool.not_eq_true', Bool.not_eq_false', ne_eq, Classical.not_not, Bool.not_true, Bool.not_false] at h) | skip) | ((conv => whnf) <;> (first | exact True.intro | apply And.intro | apply EntP.go | apply DrawP.go | (apply AnyP.mk; kernel_rfl) | apply CallP.own1 | apply CallP.own2 | apply CallP.own3 | apply CallP.nb | apply CutE.go0 | apply CutE.go7 | apply CutE.go6 | apply CutE.go5 | apply CutE.go4 | apply CutE.go3 | apply CutE.go2 | apply CutE.go1 | apply wrapS | apply Eq.refl)) | ((first | (with_reducible show rvEq _ _ _ _) | (with_reducible show svEq _ _ _) | (with_reducible show cellEq _ _ _ _) | (with_reducible show blkEq _ _ _)); conv => whnf))
    all_goals try simp only [Int.toNat_natCast] at *
    all_goals generalize l.getD k default = d at *
    all_goals first
      | omega
      | (rw [hrun, List.drop_eq_nil_of_le (by omega)]; rfl)
      | (rw [hrun, hd (by omega)]; simp only [deedsF, List.all_cons]; simp [*]; done)
      | trace_state
def sRRun : FSpec := spec (Int × Int × List Int) (fun (w, g, l) => [.i w, .i g, .c (intsS l)]) (fun (w, g, l) => l.length ≤ 1000000 ∧ isW w = true ∧ isG g = true ∧ deedsF l = true)
  fun (w, g, l) => r3 (o1 (runF l w g 0)) (o2 (runF l w g 0)) (o3 (runF l w g 0))
set_option maxHeartbeats 4000000 in
set_option maxRecDepth 100000 in
theorem rrun_ok : Meets Try.prog 35 sRRun := by
  refine meets_plain T4_ok rfl [] (fn := Try.f35) rfl rfl rfl (by decide) fun ⟨w0, g0, l⟩ ⟨hl, hw0, hg0, hdl⟩ => ?_
  repeat' (first | (intro h; first | exact Bool.noConfusion h | (guard_hyp h : true = true; clear h) | (guard_hyp h : false = false; clear h) | (simp only [decide_eq_true_eq, decide_eq_false_iff_not, beq_iff_eq, beq_eq_false_iff_ne, bne_iff_ne, bne_eq_false_iff_eq, Bool.not_eq_true', Bool.not_eq_false', ne_eq, Classical.not_not, Bool.not_true, Bool.not_false] at h) | skip) | ((conv => whnf) <;> (first | exact True.intro | apply And.intro | apply EntP.go | apply DrawP.go | (apply AnyP.mk; kernel_rfl) | apply CallP.own1 | apply CallP.own2 | apply CallP.own3 | apply CallP.nb | apply CutE.go0 | apply CutE.go7 | apply CutE.go6 | apply CutE.go5 | apply CutE.go4 | apply CutE.go3 | apply CutE.go2 | apply CutE.go1 | apply wrapS | apply Eq.refl)) | ((first | (with_reducible show rvEq _ _ _ _) | (with_reducible show svEq _ _ _) | (with_reducible show cellEq _ _ _ _) | (with_reducible show blkEq _ _ _)); conv => whnf))
  apply LoopP.up (G := Nat × Int × Int × Int) (fun s => s.1 ≤ l.length ∧ RunI l w0 g0 (s.1, s.2.1, s.2.2.1, s.2.2.2) ∧ deedsF (l.drop s.1) = true) [0, 1, 9, 14, 15, 16] (fun (k, w, g, n) => [(16, .i k), (0, .i w), (1, .i g), (9, .i n)]) (fun _ => []) 0 (fun s => l.length - s.1)
  apply And.intro
  · refine CutE.at (0, w0, g0, 0) ?_
    repeat' (first | (intro h; first | exact Bool.noConfusion h | (guard_hyp h : true = true; clear h) | (guard_hyp h : false = false; clear h) | (simp only [decide_eq_true_eq, decide_eq_false_iff_not, beq_iff_eq, beq_eq_false_iff_ne, bne_iff_ne, bne_eq_false_iff_eq, Bool.not_eq_true', Bool.not_eq_false', ne_eq, Classical.not_not, Bool.not_true, Bool.not_false] at h) | skip) | ((conv => whnf) <;> (first | exact True.intro | apply And.intro | apply EntP.go | apply DrawP.go | (apply AnyP.mk; kernel_rfl) | apply CallP.own1 | apply CallP.own2 | apply CallP.own3 | apply CallP.nb | apply CutE.go0 | apply CutE.go7 | apply CutE.go6 | apply CutE.go5 | apply CutE.go4 | apply CutE.go3 | apply CutE.go2 | apply CutE.go1 | apply wrapS | apply Eq.refl)) | ((first | (with_reducible show rvEq _ _ _ _) | (with_reducible show svEq _ _ _) | (with_reducible show cellEq _ _ _ _) | (with_reducible show blkEq _ _ _)); conv => whnf))
    · simp
    · exact ⟨⟨by simp, by simp⟩, by assumption, by assumption, by simp, rfl⟩
    · exact hdl
  · rintro ⟨k, w, g, n⟩ ⟨hk, ⟨hi, hw, hg, hn, hrun⟩, hdd⟩
    simp only at hi hw hg hn hrun hk hdd
    have hd : k < l.length → l.drop k = l.getD k default :: l.drop (k + 1) := drop_getD
    have w2 : IntKind.i64.wrap (n + 1) = n + 1 := wrap_i64 ⟨by omega, by omega⟩
    have hd2 : k < l.length → ¬ l.getD k default < 0 ∧ ¬ 2 < l.getD k default ∧ deedsF (l.drop (k + 1)) = true := by
      intro h
      rw [hd h] at hdd
      simp only [deedsF, List.all_cons, Bool.and_eq_true, Bool.not_eq_true', decide_eq_false_iff_not] at hdd ⊢
      exact ⟨hdd.1.1, hdd.1.2, hdd.2⟩
    repeat' (first | (intro h; first | exact Bool.noConfusion h | (guard_hyp h : true = true; clear h) | (guard_hyp h : false = false; clear h) | (simp only [decide_eq_true_eq, decide_eq_false_iff_not, beq_iff_eq, beq_eq_false_iff_ne, bne_iff_ne, bne_eq_false_iff_eq, Bool.not_eq_true', Bool.not_eq_false', ne_eq, Classical.not_not, Bool.not_true, Bool.not_false] at h) | skip) | ((conv => whnf) <;> (first | exact True.intro | apply And.intro | apply EntP.go | apply DrawP.go | (apply AnyP.mk; kernel_rfl) | apply CallP.own1 | apply CallP.own2 | apply CallP.own3 | apply CallP.nb | apply CutE.go0 | apply CutE.go7 | apply CutE.go6 | apply CutE.go5 | apply CutE.go4 | apply CutE.go3 | apply CutE.go2 | apply CutE.go1 | apply wrapS | apply Eq.refl)) | ((first | (with_reducible show rvEq _ _ _ _) | (with_reducible show svEq _ _ _) | (with_reducible show cellEq _ _ _ _) | (with_reducible show blkEq _ _ _)); conv => whnf))
    all_goals try simp only [Int.toNat_natCast, w2] at *
    all_goals first
      | omega
      | assumption
      | exact (hd2 (by omega)).2.2
      | (have hd := hd (by omega)
         have hd2 := hd2 (by omega)
         revert hd hd2
         generalize l.getD k default = d at *
         intro hd hd2
         rw [hd, runF_ok (by omega) (by omega)] at hrun
         refine ⟨⟨by simp; omega, by simp; omega⟩, by first | assumption | (apply enter_W <;> assumption) | (apply leave_W <;> assumption), by first | assumption | (rw [← (flip_in hg).1]; apply flip_G; assumption), ⟨by simp; omega, by simp; omega⟩, hrun.trans ?_⟩
         simp only [deed, *, (flip_in hg).1, (flip_in hg).2]
         first | (simp; done) | (simp; intro h; contradiction))
      | (rw [hrun, List.drop_eq_nil_of_le (by omega)]; rfl)
      | trace_state

def sRuns : FSpec := spec (Int × Int × List Int) (fun (w, g, l) => [.i w, .i g, .c (intsS l)]) (fun _ => True) fun _ => .b true
def T5 : List (Nat × FSpec) := [(33, sRun), (34, sDeeds), (35, sRRun), (16, sAlive), (22, sIsGate), (24, sIsWord)]
theorem T5_ok : GOK Try.prog (tab T5) := gok_cons run_ok (gok_cons deeds_ok (gok_cons rrun_ok (gok_cons alive_ok (gok_cons rgate_ok (gok_cons rword_ok (gok_nil _))))))
theorem deedsF_some : ∀ (l : List Int) (w g n : Int), deedsF l = true → o4 (runF l w g n) = 0
  | [], _, _, _, _ => rfl
  | d :: l, w, g, n, h => by
    simp only [deedsF, List.all_cons, Bool.and_eq_true, Bool.not_eq_true', decide_eq_false_iff_not] at h
    rw [runF_ok (by omega) (by omega)]
    split <;> exact deedsF_some l _ _ _ (by simp only [deedsF]; exact h.2)
theorem deedsF_none : ∀ (l : List Int) (w g n : Int), deedsF l = false → runF l w g n = none
  | [], _, _, _, h => by cases h
  | d :: l, w, g, n, h => by
    by_cases hd : d < 0 ∨ 3 ≤ d
    · exact runF_bad hd
    · rw [runF_ok (by omega) (by omega)]
      have h2 : deedsF l = false := by
        have h1 : decide (d < 0) = false := by simp; omega
        have h2 : decide (2 < d) = false := by simp; omega
        simpa only [deedsF, List.all_cons, h1, h2, Bool.not_false, Bool.and_self, Bool.true_and] using h
      split <;> exact deedsF_none l _ _ _ h2
set_option maxHeartbeats 4000000 in
set_option maxRecDepth 100000 in
theorem runs_ok : Meets Try.prog 10 sRuns := by
  refine meets_plain T5_ok rfl [2] (fn := Try.f10) rfl rfl rfl (by decide) fun ⟨w, g, l⟩ _ => ?_
  repeat' (first | (intro h; first | exact Bool.noConfusion h | (guard_hyp h : true = true; clear h) | (guard_hyp h : false = false; clear h) | (simp only [decide_eq_true_eq, decide_eq_false_iff_not, beq_iff_eq, beq_eq_false_iff_ne, bne_iff_ne, bne_eq_false_iff_eq, Bool.not_eq_true', Bool.not_eq_false', ne_eq, Classical.not_not, Bool.not_true, Bool.not_false] at h) | skip) | ((conv => whnf) <;> (first | exact True.intro | apply And.intro | apply EntP.go | apply DrawP.go | (apply AnyP.mk; kernel_rfl) | apply CallP.own1 | apply CallP.own2 | apply CallP.own3 | apply CallP.nb | apply CutE.go0 | apply CutE.go7 | apply CutE.go6 | apply CutE.go5 | apply CutE.go4 | apply CutE.go3 | apply CutE.go2 | apply CutE.go1 | apply wrapS | apply Eq.refl)) | ((first | (with_reducible show rvEq _ _ _ _) | (with_reducible show svEq _ _ _) | (with_reducible show cellEq _ _ _ _) | (with_reducible show blkEq _ _ _)); conv => whnf))
  apply CutP.up (G := Unit) (fun _ => True) [0, 1, 2] (fun _ => [(2, .c (intsS (l.take 200)))]) (fun _ => []) 0
  apply And.intro
  · repeat' (first | (intro h; first | exact Bool.noConfusion h | (guard_hyp h : true = true; clear h) | (guard_hyp h : false = false; clear h) | (simp only [decide_eq_true_eq, decide_eq_false_iff_not, beq_iff_eq, beq_eq_false_iff_ne, bne_iff_ne, bne_eq_false_iff_eq, Bool.not_eq_true', Bool.not_eq_false', ne_eq, Classical.not_not, Bool.not_true, Bool.not_false] at h) | skip) | ((conv => whnf) <;> (first | exact True.intro | apply And.intro | apply EntP.go | apply DrawP.go | (apply AnyP.mk; kernel_rfl) | apply CallP.own1 | apply CallP.own2 | apply CallP.own3 | apply CallP.nb | apply CutE.go0 | apply CutE.go7 | apply CutE.go6 | apply CutE.go5 | apply CutE.go4 | apply CutE.go3 | apply CutE.go2 | apply CutE.go1 | apply wrapS | apply Eq.refl)) | ((first | (with_reducible show rvEq _ _ _ _) | (with_reducible show svEq _ _ _) | (with_reducible show cellEq _ _ _ _) | (with_reducible show blkEq _ _ _)); conv => whnf))
    all_goals first | exact Int.le_refl 0 | exact take_lo (m := 200) | exact take_hi (m := 200) | exact take_len (m := 200) | (apply take_cell (m := 200); assumption) | trace_state
  rintro ⟨⟩ _
  have hl : (l.take 200).length ≤ 1000000 := by rw [List.length_take]; omega
  generalize l.take 200 = l at *
  have hs := deedsF_some l w g 0
  have hn := deedsF_none l w g 0
  repeat' (first | (intro h; first | exact Bool.noConfusion h | (guard_hyp h : true = true; clear h) | (guard_hyp h : false = false; clear h) | (simp only [decide_eq_true_eq, decide_eq_false_iff_not, beq_iff_eq, beq_eq_false_iff_ne, bne_iff_ne, bne_eq_false_iff_eq, Bool.not_eq_true', Bool.not_eq_false', ne_eq, Classical.not_not, Bool.not_true, Bool.not_false] at h) | skip) | ((conv => whnf) <;> (first | exact True.intro | apply And.intro | apply EntP.go | apply DrawP.go | (apply AnyP.mk; kernel_rfl) | apply CallP.own1 | apply CallP.own2 | apply CallP.own3 | apply CallP.nb | apply CutE.go0 | apply CutE.go7 | apply CutE.go6 | apply CutE.go5 | apply CutE.go4 | apply CutE.go3 | apply CutE.go2 | apply CutE.go1 | apply wrapS | apply Eq.refl)) | ((first | (with_reducible show rvEq _ _ _ _) | (with_reducible show svEq _ _ _) | (with_reducible show cellEq _ _ _ _) | (with_reducible show blkEq _ _ _)); conv => whnf))
  all_goals first | assumption | exact hl | (simp_all [o1, o2, o3, o4]; done) | trace_state
end Go.Eng
