/- TsoMoves, walked. -/
import Derived.Test.YtpcimaemigchiaaTsoMk
set_option linter.unusedVariables false
set_option linter.unusedSimpArgs false
namespace Go.Eng
open Go Go.Proofs

def sTMoves : FSpec := sTrue (List Int × List Int × Int × List (List Put) × Int × Int × Int) fun (ws, ts, d, l, i, a, v) => [.c (intsS ws), .c (intsS ts), .i d, .c (bufsS l), .i i, .i a, .i v]
set_option maxHeartbeats 8000000 in
set_option maxRecDepth 100000 in
theorem tmoves_ok : Meets Try.prog 15 sTMoves := by
  refine meets_plain T9_ok rfl [2] (fn := Try.f15) rfl rfl rfl (by decide) fun ⟨ws, ts, d, l, i, a, v⟩ _ => ?_
  have hX := sx_mach ws ts d l
  obtain ⟨W, G, D, L, hM⟩ : ∃ W G D L, machT ws ts d l = (W, G, D, L) := ⟨_, _, _, _, rfl⟩
  rw [hM] at hX
  repeat' (first | (intro h; first | exact Bool.noConfusion h | (guard_hyp h : true = true; clear h) | (guard_hyp h : false = false; clear h) | (simp only [decide_eq_true_eq, decide_eq_false_iff_not, beq_iff_eq, beq_eq_false_iff_ne, bne_iff_ne, bne_eq_false_iff_eq, Bool.not_eq_true', Bool.not_eq_false', ne_eq, Classical.not_not, Bool.not_true, Bool.not_false, beqL_iff, beqL_ff, List.cons.injEq, and_true] at h) | skip) | ((conv => whnf) <;> (first | exact True.intro | apply br_rec | apply And.intro | apply EntP.k0 | apply EntP.k1 | apply EntP.k2 | apply EntP.k3 | apply EntP.k4 | apply EntP.k5 | apply EntP.k6 | apply DrawP.go | (apply AnyP.mk; kernel_rfl) | (refine AggP.go 2 rfl (by kernel_rfl) ?_) | (refine AggP.go 1 rfl (by kernel_rfl) ?_) | (refine AggP.go 3 rfl (by kernel_rfl) ?_) | (refine AggP.go 4 rfl (by kernel_rfl) ?_) | (refine AggP.go 5 rfl (by kernel_rfl) ?_) | (refine AggP.go 8 rfl (by kernel_rfl) ?_) | (refine AggP.go 11 rfl (by kernel_rfl) ?_) | apply CallP.own0 | apply CallP.own1 | apply CallP.own2 | apply CallP.own3 | apply CallP.nb | apply CutE.go0 | apply CutE.go7 | apply CutE.go6 | apply CutE.go5 | apply CutE.go4 | apply CutE.go3 | apply CutE.go2 | apply CutE.go1 | apply RoP.id | apply wrapS | (with_reducible exact lenNil) | apply Eq.refl)) | ((first | (with_reducible show rvEq _ _ _ _) | (with_reducible show svEq _ _ _ _) | (with_reducible show cellEq _ _ _ _) | (with_reducible show blkEq _ _ _)); conv => whnf))
  apply CutP.up (G := Unit) (fun _ => True) [4, 5, 6, 15] (fun _ => [(15, .s (.c (.ptr 0 0)))]) (fun _ => [(0, .row 64 (tsoC W G D L))]) 1
  apply And.intro
  · cases hM
    repeat' (first | (intro h; first | exact Bool.noConfusion h | (guard_hyp h : true = true; clear h) | (guard_hyp h : false = false; clear h) | (simp only [decide_eq_true_eq, decide_eq_false_iff_not, beq_iff_eq, beq_eq_false_iff_ne, bne_iff_ne, bne_eq_false_iff_eq, Bool.not_eq_true', Bool.not_eq_false', ne_eq, Classical.not_not, Bool.not_true, Bool.not_false, beqL_iff, beqL_ff, List.cons.injEq, and_true] at h) | skip) | ((conv => whnf) <;> (first | exact True.intro | apply br_rec | apply And.intro | apply EntP.k0 | apply EntP.k1 | apply EntP.k2 | apply EntP.k3 | apply EntP.k4 | apply EntP.k5 | apply EntP.k6 | apply DrawP.go | (apply AnyP.mk; kernel_rfl) | (refine AggP.go 2 rfl (by kernel_rfl) ?_) | (refine AggP.go 1 rfl (by kernel_rfl) ?_) | (refine AggP.go 3 rfl (by kernel_rfl) ?_) | (refine AggP.go 4 rfl (by kernel_rfl) ?_) | (refine AggP.go 5 rfl (by kernel_rfl) ?_) | (refine AggP.go 8 rfl (by kernel_rfl) ?_) | (refine AggP.go 11 rfl (by kernel_rfl) ?_) | apply CallP.own0 | apply CallP.own1 | apply CallP.own2 | apply CallP.own3 | apply CallP.nb | apply CutE.go0 | apply CutE.go7 | apply CutE.go6 | apply CutE.go5 | apply CutE.go4 | apply CutE.go3 | apply CutE.go2 | apply CutE.go1 | apply RoP.id | apply wrapS | (with_reducible exact lenNil) | apply Eq.refl)) | ((first | (with_reducible show rvEq _ _ _ _) | (with_reducible show svEq _ _ _ _) | (with_reducible show cellEq _ _ _ _) | (with_reducible show blkEq _ _ _)); conv => whnf))
  rintro ⟨⟩ _
  clear hM
  have hN := sx_store hX i a v
  have hF := sx_flush hX i
  repeat' (first | (intro h; first | exact Bool.noConfusion h | (guard_hyp h : true = true; clear h) | (guard_hyp h : false = false; clear h) | (simp only [decide_eq_true_eq, decide_eq_false_iff_not, beq_iff_eq, beq_eq_false_iff_ne, bne_iff_ne, bne_eq_false_iff_eq, Bool.not_eq_true', Bool.not_eq_false', ne_eq, Classical.not_not, Bool.not_true, Bool.not_false, beqL_iff, beqL_ff, List.cons.injEq, and_true] at h) | skip) | ((conv => whnf) <;> (first | exact True.intro | apply br_rec | apply And.intro | apply CutE.go9 | apply CutE.go8 | apply EntP.k0 | apply EntP.k1 | apply EntP.k2 | apply EntP.k3 | apply EntP.k4 | apply EntP.k5 | apply EntP.k6 | apply DrawP.go | (apply AnyP.mk; kernel_rfl) | (refine AggP.go 2 rfl (by kernel_rfl) ?_) | (refine AggP.go 1 rfl (by kernel_rfl) ?_) | (refine AggP.go 3 rfl (by kernel_rfl) ?_) | (refine AggP.go 4 rfl (by kernel_rfl) ?_) | (refine AggP.go 5 rfl (by kernel_rfl) ?_) | (refine AggP.go 8 rfl (by kernel_rfl) ?_) | (refine AggP.go 11 rfl (by kernel_rfl) ?_) | apply CallP.own0 | apply CallP.own1 | apply CallP.own2 | apply CallP.own3 | apply CallP.nb | apply CutE.go0 | apply CutE.go7 | apply CutE.go6 | apply CutE.go5 | apply CutE.go4 | apply CutE.go3 | apply CutE.go2 | apply CutE.go1 | apply RoP.id | apply wrapS | (with_reducible exact lenNil) | apply Eq.refl)) | ((first | (with_reducible show rvEq _ _ _ _) | (with_reducible show svEq _ _ _ _) | (with_reducible show cellEq _ _ _ _) | (with_reducible show blkEq _ _ _)); conv => whnf))
  all_goals try simp only at *
  all_goals try first
    | exact hX.small.1
    | exact hX.small.2 _
    | exact Nat.le_trans hN.w (by decide)
    | exact Nat.le_trans hN.g (by decide)
    | exact Nat.le_trans hN.l (by decide)
    | exact Nat.le_trans (hN.b _) (by decide)
    | exact Nat.le_trans hF.w (by decide)
    | exact Nat.le_trans hF.g (by decide)
    | exact Nat.le_trans hF.l (by decide)
    | exact Nat.le_trans (hF.b _) (by decide)
    | exact Nat.zero_le _
    | exact sx0.small.2 _
    | exact absurd True.intro ‹¬True›
    | exact (tsoEq_self _ _ _ _).symm
    | omega
  all_goals (by_cases hh : hasF W G D L i = true)
  all_goals first
    | exact hh
    | (exfalso; have h1 := hasF_iff.1 hh; first | omega | exact Bool.noConfusion (h1.1.symm.trans (by assumption)))
    | (exfalso; exact hh (hasF_iff.2 ⟨by assumption, by omega, by omega⟩))
    | (rw [storeT, if_neg hh]; exact (tsoEq_t tso0).symm)
    | (rw [flushT, if_neg hh]; exact (tsoEq_t tso0).symm)
    | (exfalso; apply h; rw [storeT, if_neg hh]; done)
    | (exfalso; apply h; rw [storeT, if_neg hh]; rfl)
    | (exfalso; apply h; rw [flushT, if_neg hh]; done)
    | (exfalso; apply h; rw [flushT, if_neg hh]; rfl)
    | (exfalso; apply h; rw [loadT, if_neg hh]; done)
    | (exfalso; apply h; rw [loadT, if_neg hh]; rfl)
    | (exfalso; rw [tsoEq_self] at h; exact Bool.noConfusion h)
    | (exfalso; rw [storeT, if_neg hh] at h; exact Bool.noConfusion ((tsoEq_t tso0).symm.trans h))
    | trace_state
end Go.Eng
