/- TsoOwn, walked. -/
import Derived.Test.YtpcimaemigchiaaTsoMk
import Derived.Test.YtpcimaemigchiaaTsoQ
set_option linter.unusedVariables false
set_option linter.unusedSimpArgs false
namespace Go.Eng
open Go Go.Proofs

theorem storeT_bad {ws ts : List Int} {d : Int} {l : List (List Put)} {i a v : Int} (h : ¬ (storeT (ws, ts, d, l) i a v).2 = 0) : (storeT (ws, ts, d, l) i a v).1 = tso0 := by
  unfold storeT at h ⊢
  simp only at h ⊢
  split
  · split
    · split
      · simp_all
      · split
        · simp_all
        · rfl
    · rfl
  · rfl
def sTOwn : FSpec := sTrue (List Int × List Int × Int × List (List Put) × Int × Int × Int × Int × Int) fun (ws, ts, d, l, i, a, v, o, k) => [.c (intsS ws), .c (intsS ts), .i d, .c (bufsS l), .i i, .i a, .i v, .i o, .i k]
set_option maxHeartbeats 8000000 in
set_option maxRecDepth 100000 in
theorem town_ok : Meets Try.prog 14 sTOwn := by
  refine meets_plain T9_ok rfl [2] (fn := Try.f14) rfl rfl rfl (by decide) fun ⟨ws, ts, d, l, i, a, v, o, k⟩ _ => ?_
  have hX := sx_mach ws ts d l
  obtain ⟨W, G, D, L, hM⟩ : ∃ W G D L, machT ws ts d l = (W, G, D, L) := ⟨_, _, _, _, rfl⟩
  rw [hM] at hX
  have hD : D = d := by cases hM; rfl
  repeat' (first | (intro h; first | exact Bool.noConfusion h | (guard_hyp h : true = true; clear h) | (guard_hyp h : false = false; clear h) | (simp only [decide_eq_true_eq, decide_eq_false_iff_not, beq_iff_eq, beq_eq_false_iff_ne, bne_iff_ne, bne_eq_false_iff_eq, Bool.not_eq_true', Bool.not_eq_false', ne_eq, Classical.not_not, Bool.not_true, Bool.not_false, beqL_iff, beqL_ff, List.cons.injEq, and_true] at h) | skip) | ((conv => whnf) <;> (first | exact True.intro | apply br_rec | apply And.intro | apply EntP.k0 | apply EntP.k1 | apply EntP.k2 | apply EntP.k3 | apply EntP.k4 | apply EntP.k5 | apply EntP.k6 | apply DrawP.go | (apply AnyP.mk; kernel_rfl) | (refine AggP.go 2 rfl (by kernel_rfl) ?_) | (refine AggP.go 1 rfl (by kernel_rfl) ?_) | (refine AggP.go 3 rfl (by kernel_rfl) ?_) | (refine AggP.go 4 rfl (by kernel_rfl) ?_) | (refine AggP.go 5 rfl (by kernel_rfl) ?_) | (refine AggP.go 8 rfl (by kernel_rfl) ?_) | (refine AggP.go 11 rfl (by kernel_rfl) ?_) | apply CallP.own0 | apply CallP.own1 | apply CallP.own2 | apply CallP.own3 | apply CallP.nb | apply CutE.go0 | apply CutE.go7 | apply CutE.go6 | apply CutE.go5 | apply CutE.go4 | apply CutE.go3 | apply CutE.go2 | apply CutE.go1 | apply RoP.id | apply wrapS | (with_reducible exact lenNil) | apply Eq.refl)) | ((first | (with_reducible show rvEq _ _ _ _) | (with_reducible show svEq _ _ _ _) | (with_reducible show cellEq _ _ _ _) | (with_reducible show blkEq _ _ _)); conv => whnf))
  apply CutP.up (G := Unit) (fun _ => True) [2, 4, 5, 6, 7, 8, 19] (fun _ => [(19, .s (.c (.ptr 0 0)))]) (fun _ => [(0, .row 64 (tsoC W G D L))]) 1
  apply And.intro
  · cases hM
    repeat' (first | (intro h; first | exact Bool.noConfusion h | (guard_hyp h : true = true; clear h) | (guard_hyp h : false = false; clear h) | (simp only [decide_eq_true_eq, decide_eq_false_iff_not, beq_iff_eq, beq_eq_false_iff_ne, bne_iff_ne, bne_eq_false_iff_eq, Bool.not_eq_true', Bool.not_eq_false', ne_eq, Classical.not_not, Bool.not_true, Bool.not_false, beqL_iff, beqL_ff, List.cons.injEq, and_true] at h) | skip) | ((conv => whnf) <;> (first | exact True.intro | apply br_rec | apply And.intro | apply EntP.k0 | apply EntP.k1 | apply EntP.k2 | apply EntP.k3 | apply EntP.k4 | apply EntP.k5 | apply EntP.k6 | apply DrawP.go | (apply AnyP.mk; kernel_rfl) | (refine AggP.go 2 rfl (by kernel_rfl) ?_) | (refine AggP.go 1 rfl (by kernel_rfl) ?_) | (refine AggP.go 3 rfl (by kernel_rfl) ?_) | (refine AggP.go 4 rfl (by kernel_rfl) ?_) | (refine AggP.go 5 rfl (by kernel_rfl) ?_) | (refine AggP.go 8 rfl (by kernel_rfl) ?_) | (refine AggP.go 11 rfl (by kernel_rfl) ?_) | apply CallP.own0 | apply CallP.own1 | apply CallP.own2 | apply CallP.own3 | apply CallP.nb | apply CutE.go0 | apply CutE.go7 | apply CutE.go6 | apply CutE.go5 | apply CutE.go4 | apply CutE.go3 | apply CutE.go2 | apply CutE.go1 | apply RoP.id | apply wrapS | (with_reducible exact lenNil) | apply Eq.refl)) | ((first | (with_reducible show rvEq _ _ _ _) | (with_reducible show svEq _ _ _ _) | (with_reducible show cellEq _ _ _ _) | (with_reducible show blkEq _ _ _)); conv => whnf))
  rintro ⟨⟩ _
  clear hM
  have hN := sx_store hX i a v
  repeat' (first | (intro h; first | exact Bool.noConfusion h | (guard_hyp h : true = true; clear h) | (guard_hyp h : false = false; clear h) | (simp only [decide_eq_true_eq, decide_eq_false_iff_not, beq_iff_eq, beq_eq_false_iff_ne, bne_iff_ne, bne_eq_false_iff_eq, Bool.not_eq_true', Bool.not_eq_false', ne_eq, Classical.not_not, Bool.not_true, Bool.not_false, beqL_iff, beqL_ff, List.cons.injEq, and_true] at h) | skip) | ((conv => whnf) <;> (first | exact True.intro | apply br_rec | apply And.intro | apply EntP.k0 | apply EntP.k1 | apply EntP.k2 | apply EntP.k3 | apply EntP.k4 | apply EntP.k5 | apply EntP.k6 | apply DrawP.go | (apply AnyP.mk; kernel_rfl) | (refine AggP.go 2 rfl (by kernel_rfl) ?_) | (refine AggP.go 1 rfl (by kernel_rfl) ?_) | (refine AggP.go 3 rfl (by kernel_rfl) ?_) | (refine AggP.go 4 rfl (by kernel_rfl) ?_) | (refine AggP.go 5 rfl (by kernel_rfl) ?_) | (refine AggP.go 8 rfl (by kernel_rfl) ?_) | (refine AggP.go 11 rfl (by kernel_rfl) ?_) | apply CallP.own0 | apply CallP.own1 | apply CallP.own2 | apply CallP.own3 | apply CallP.nb | apply CutE.go0 | apply CutE.go7 | apply CutE.go6 | apply CutE.go5 | apply CutE.go4 | apply CutE.go3 | apply CutE.go2 | apply CutE.go1 | apply RoP.id | apply wrapS | (with_reducible exact lenNil) | apply Eq.refl)) | ((first | (with_reducible show rvEq _ _ _ _) | (with_reducible show svEq _ _ _ _) | (with_reducible show cellEq _ _ _ _) | (with_reducible show blkEq _ _ _)); conv => whnf))
  all_goals try simp only at *
  all_goals try first
    | exact hX.small.1
    | exact hX.small.2 _
    | exact Nat.le_trans hN.w (by decide)
    | exact Nat.le_trans hN.g (by decide)
    | exact Nat.le_trans hN.l (by decide)
    | exact Nat.le_trans (hN.b _) (by decide)
    | exact Nat.zero_le _
    | exact absurd True.intro ‹¬True›
    | (rw [storeT_bad (by assumption)]; rfl)
  all_goals (have h0 : (storeT (W, G, D, L) i a v).2 = 0 := by assumption)
  all_goals (have hw := ownL h0 o k)
  all_goals (have hv := (ownL h0 i a).2.1 (store_cases h0).1 rfl (.inl rfl))
  all_goals have hv1 := congrArg Prod.fst hv
  all_goals have hv2 := congrArg Prod.snd hv
  all_goals (by_cases ho : hasF W G D L o = true)
  all_goals first
    | (exfalso; exact absurd hv1 (by assumption))
    | (exfalso; exact absurd hv2 (by assumption))
    | (have e := hw.2.2 (by omega)
       have e1 := congrArg Prod.fst e
       have e2 := congrArg Prod.snd e
       first
        | (exfalso; exact absurd e1 (by assumption))
        | (apply Eq.symm; exact beq_iff_eq.2 e2))
    | (have e := hw.2.1 ho (by assumption) (by omega)
       have e1 := congrArg Prod.fst e
       have e2 := congrArg Prod.snd e
       first
        | (exfalso; exact absurd e1 (by assumption))
        | (exfalso; exact absurd e2 (by assumption))
        | (apply Eq.symm; exact beq_iff_eq.2 e2))
    | (have e := hw.1 (by simpa using ho)
       have e1 := congrArg Prod.snd e.1
       have e2 := congrArg Prod.snd e.2
       first
        | (exfalso; exact absurd e1 (by assumption))
        | (apply Eq.symm; exact beq_iff_eq.2 e2))
    | trace_state
end Go.Eng
