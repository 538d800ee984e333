/- TsoMakes, TsoLocks, walked. -/
import Derived.Test.YtpcimaemigchiaaTsoP
set_option linter.unusedVariables false
set_option linter.unusedSimpArgs false
namespace Go.Eng
open Go Go.Proofs

def T9 : List (Nat × FSpec) := (45, sMach) :: (49, sTsoAlive) :: (50, sTSame) :: (52, sRTNew) :: (56, sRTLoad) :: (57, sRTStore) :: (58, sRTFlush) :: (60, sRTLock) :: T8
theorem T9_ok : GOK Try.prog (tab T9) := gok_cons mach_ok (gok_cons tsoAlive_ok (gok_cons tsame_ok (gok_cons rtnew_ok (gok_cons rtload_ok (gok_cons rtstore_ok (gok_cons rtflush_ok (gok_cons rtlock_ok T8_ok)))))))

def sTMakes : FSpec := sTrue (List Int × List Int × Int × Int × List (List Put)) fun (ws, ts, n, d, l) => [.c (intsS ws), .c (intsS ts), .i n, .i d, .c (bufsS l)]
set_option maxHeartbeats 8000000 in
set_option maxRecDepth 100000 in
theorem tmakes_ok : Meets Try.prog 13 sTMakes := by
  refine meets_plain T9_ok rfl [2] (fn := Try.f13) rfl rfl rfl (by decide) fun ⟨ws, ts, n, d, l⟩ _ => ?_
  have hX := sx_mach ws ts d l
  obtain ⟨W, G, D, L, hM⟩ : ∃ W G D L, machT ws ts d l = (W, G, D, L) := ⟨_, _, _, _, rfl⟩
  rw [hM] at hX
  repeat' (first | (intro h; first | exact Bool.noConfusion h | (guard_hyp h : true = true; clear h) | (guard_hyp h : false = false; clear h) | (simp only [decide_eq_true_eq, decide_eq_false_iff_not, beq_iff_eq, beq_eq_false_iff_ne, bne_iff_ne, bne_eq_false_iff_eq, Bool.not_eq_true', Bool.not_eq_false', ne_eq, Classical.not_not, Bool.not_true, Bool.not_false, beqL_iff, beqL_ff, List.cons.injEq, and_true] at h) | skip) | ((conv => whnf) <;> (first | exact True.intro | apply br_rec | apply And.intro | apply EntP.k0 | apply EntP.k1 | apply EntP.k2 | apply EntP.k3 | apply EntP.k4 | apply EntP.k5 | apply EntP.k6 | apply DrawP.go | (apply AnyP.mk; kernel_rfl) | (refine AggP.go 2 rfl (by kernel_rfl) ?_) | (refine AggP.go 1 rfl (by kernel_rfl) ?_) | (refine AggP.go 3 rfl (by kernel_rfl) ?_) | (refine AggP.go 4 rfl (by kernel_rfl) ?_) | (refine AggP.go 5 rfl (by kernel_rfl) ?_) | (refine AggP.go 8 rfl (by kernel_rfl) ?_) | (refine AggP.go 11 rfl (by kernel_rfl) ?_) | apply CallP.own0 | apply CallP.own1 | apply CallP.own2 | apply CallP.own3 | apply CallP.nb | apply CutE.go0 | apply CutE.go7 | apply CutE.go6 | apply CutE.go5 | apply CutE.go4 | apply CutE.go3 | apply CutE.go2 | apply CutE.go1 | apply RoP.id | apply wrapS | (with_reducible exact lenNil) | apply Eq.refl)) | ((first | (with_reducible show rvEq _ _ _ _) | (with_reducible show svEq _ _ _ _) | (with_reducible show cellEq _ _ _ _) | (with_reducible show blkEq _ _ _)); conv => whnf))
  apply CutP.up (G := Unit) (fun _ => True) [2, 3, 11] (fun _ => [(11, .s (.c (.ptr 0 0)))]) (fun _ => [(0, .row 64 (tsoC W G D L))]) 1
  apply And.intro
  · cases hM
    repeat' (first | (intro h; first | exact Bool.noConfusion h | (guard_hyp h : true = true; clear h) | (guard_hyp h : false = false; clear h) | (simp only [decide_eq_true_eq, decide_eq_false_iff_not, beq_iff_eq, beq_eq_false_iff_ne, bne_iff_ne, bne_eq_false_iff_eq, Bool.not_eq_true', Bool.not_eq_false', ne_eq, Classical.not_not, Bool.not_true, Bool.not_false, beqL_iff, beqL_ff, List.cons.injEq, and_true] at h) | skip) | ((conv => whnf) <;> (first | exact True.intro | apply br_rec | apply And.intro | apply EntP.k0 | apply EntP.k1 | apply EntP.k2 | apply EntP.k3 | apply EntP.k4 | apply EntP.k5 | apply EntP.k6 | apply DrawP.go | (apply AnyP.mk; kernel_rfl) | (refine AggP.go 2 rfl (by kernel_rfl) ?_) | (refine AggP.go 1 rfl (by kernel_rfl) ?_) | (refine AggP.go 3 rfl (by kernel_rfl) ?_) | (refine AggP.go 4 rfl (by kernel_rfl) ?_) | (refine AggP.go 5 rfl (by kernel_rfl) ?_) | (refine AggP.go 8 rfl (by kernel_rfl) ?_) | (refine AggP.go 11 rfl (by kernel_rfl) ?_) | apply CallP.own0 | apply CallP.own1 | apply CallP.own2 | apply CallP.own3 | apply CallP.nb | apply CutE.go0 | apply CutE.go7 | apply CutE.go6 | apply CutE.go5 | apply CutE.go4 | apply CutE.go3 | apply CutE.go2 | apply CutE.go1 | apply RoP.id | apply wrapS | (with_reducible exact lenNil) | apply Eq.refl)) | ((first | (with_reducible show rvEq _ _ _ _) | (with_reducible show svEq _ _ _ _) | (with_reducible show cellEq _ _ _ _) | (with_reducible show blkEq _ _ _)); conv => whnf))
  rintro ⟨⟩ _
  clear hM
  have hXw : W.length ≤ 1000 := hX.w
  have hXg : G.length ≤ 1000 := hX.g
  have hN := sx_new hXw hXg n d
  repeat' (first | (intro h; first | exact Bool.noConfusion h | (guard_hyp h : true = true; clear h) | (guard_hyp h : false = false; clear h) | (simp only [decide_eq_true_eq, decide_eq_false_iff_not, beq_iff_eq, beq_eq_false_iff_ne, bne_iff_ne, bne_eq_false_iff_eq, Bool.not_eq_true', Bool.not_eq_false', ne_eq, Classical.not_not, Bool.not_true, Bool.not_false, beqL_iff, beqL_ff, List.cons.injEq, and_true] at h) | skip) | ((conv => whnf) <;> (first | exact True.intro | apply br_rec | apply And.intro | apply CutE.go8 | apply EntP.k0 | apply EntP.k1 | apply EntP.k2 | apply EntP.k3 | apply EntP.k4 | apply EntP.k5 | apply EntP.k6 | apply DrawP.go | (apply AnyP.mk; kernel_rfl) | (refine AggP.go 2 rfl (by kernel_rfl) ?_) | (refine AggP.go 1 rfl (by kernel_rfl) ?_) | (refine AggP.go 3 rfl (by kernel_rfl) ?_) | (refine AggP.go 4 rfl (by kernel_rfl) ?_) | (refine AggP.go 5 rfl (by kernel_rfl) ?_) | (refine AggP.go 8 rfl (by kernel_rfl) ?_) | (refine AggP.go 11 rfl (by kernel_rfl) ?_) | apply CallP.own0 | apply CallP.own1 | apply CallP.own2 | apply CallP.own3 | apply CallP.nb | apply CutE.go0 | apply CutE.go7 | apply CutE.go6 | apply CutE.go5 | apply CutE.go4 | apply CutE.go3 | apply CutE.go2 | apply CutE.go1 | apply RoP.id | apply wrapS | (with_reducible exact lenNil) | apply Eq.refl)) | ((first | (with_reducible show rvEq _ _ _ _) | (with_reducible show svEq _ _ _ _) | (with_reducible show cellEq _ _ _ _) | (with_reducible show blkEq _ _ _)); conv => whnf))
  all_goals try simp only at *
  all_goals try first
    | exact hX.small.1
    | exact hX.small.2 _
    | exact Nat.le_trans hN.w (by decide)
    | exact Nat.le_trans hN.g (by decide)
    | exact Nat.le_trans hN.l (by decide)
    | exact Nat.le_trans (hN.b _) (by decide)
    | exact Nat.zero_le _
    | exact sx0.small.2 _
    | exact absurd True.intro ‹¬True›
  all_goals have hz := @sizesF_iff n d
  all_goals try first
    | (have := hz.1 (by assumption); omega)
    | (have := hz.1 (by assumption); exact (sx_rep hXw hXg (d := d) (by omega)).small.1)
    | (have := hz.1 (by assumption); exact (sx_rep hXw hXg (d := d) (by omega)).small.2 _)
  all_goals (have e0 : memR W G = false → newT W G n d = (tso0, 1) := fun h => by rw [newT, if_neg (by simp [h])])
  all_goals (have e1 : memR W G = true → sizesF n d = false → newT W G n d = (tso0, 2) := fun h h2 => by rw [newT, if_pos h, if_neg (by simp [h2])])
  all_goals (have e2 : memR W G = true → sizesF n d = true → newT W G n d = ((W, G, d, List.replicate n.toNat []), 0) := fun h h2 => by rw [newT, if_pos h, if_pos h2])
  all_goals first
    | (rw [e0 (by assumption)]; exact (tsoEq_t tso0).symm)
    | (rw [e1 (by assumption) (by assumption)]; exact (tsoEq_t tso0).symm)
    | (rw [e2 (by assumption) (by assumption)]; exact (tsoEq_self _ _ _ _).symm)
    | (have e := e0 (by assumption); simp only [e] at *; exact absurd True.intro (by assumption))
    | (have e := e1 (by assumption) (by assumption); simp only [e] at *; exact absurd True.intro (by assumption))
    | (have e := e2 (by assumption) (by assumption); simp only [e] at *; exact absurd True.intro (by assumption))
    | (have e := e0 (by assumption); rw [e] at *; exact absurd rfl (by assumption))
    | (have e := e1 (by assumption) (by assumption); rw [e] at *; exact absurd rfl (by assumption))
    | (have e := e2 (by assumption) (by assumption); rw [e] at *; exact absurd rfl (by assumption))
    | (exfalso; have e := e0 (by assumption); rename_i h; exact h (congrArg Prod.snd e))
    | (exfalso; have e := e1 (by assumption) (by assumption); exact h (congrArg Prod.snd e))
    | (exfalso; have e := e2 (by assumption) (by assumption); exact h (congrArg Prod.snd e))
    | (exfalso; have e := e0 (by assumption); exact h (congrArg Prod.snd e))
    | trace_state

end Go.Eng
