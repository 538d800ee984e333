/- Instructions that need no memory: all operations. -/
import Derived.Test.YtgjdbpleoegejaaLoE
set_option linter.unusedVariables false
set_option linter.unusedSimpArgs false
namespace Go.Eng
open Go Go.Proofs

def hows : List Cell := [.i 0, .i 0, .v .nilFunc, .i 1, .i (-1), .fn 46 [], .i 2, .i (-1), .fn 47 [], .i 2, .i (-1), .fn 48 [], .i 2, .i (-1), .fn 49 [],
  .i 3, .i (-1), .fn 50 [], .i 3, .i (-1), .fn 51 [], .i 3, .i (-1), .fn 52 [], .i 3, .i (-1), .fn 53 [], .i 3, .i (-1), .fn 54 [],
  .i 0, .i 0, .fn 55 [], .i 1, .i 1, .fn 56 [], .i 1, .i 1, .fn 57 [], .i 0, .i 0, .v .nilFunc, .i 0, .i (-1), .v .nilFunc, .i 1, .i (-1), .fn 58 []]
def sAll : FSpec := spec Unit (fun _ => []) (fun _ => True) fun _ => .s (.agg hows)
set_option maxHeartbeats 4000000 in
set_option maxRecDepth 100000 in
theorem all_ok : Meets Try.prog 38 sAll := by
  refine meets_plain (gok_nil _) rfl [] (fn := Try.f38) rfl rfl rfl (by decide) fun _ _ => ?_
  repeat' (first | (intro h; first | exact Bool.noConfusion h | (guard_hyp h : true = true; clear h) | (guard_hyp h : false = false; clear h) | (simp only [decide_eq_true_eq, decide_eq_false_iff_not, beq_iff_eq, beq_eq_false_iff_ne, bne_iff_ne, bne_eq_false_iff_eq, Bool.not_eq_true', Bool.not_eq_false', ne_eq, Classical.not_not, Bool.not_true, Bool.not_false, beqL_iff, beqL_ff, List.cons.injEq, and_true] at h) | skip) | ((conv => whnf) <;> (first | exact True.intro | apply br_rec | apply And.intro | apply EntP.k0 | apply EntP.k1 | apply EntP.k2 | apply EntP.k3 | apply EntP.k4 | apply EntP.k5 | apply EntP.k6 | apply DrawP.go | (apply AnyP.mk; kernel_rfl) | (refine AggP.go 2 rfl (by kernel_rfl) ?_) | (refine AggP.go 1 rfl (by kernel_rfl) ?_) | (refine AggP.go 3 rfl (by kernel_rfl) ?_) | (refine AggP.go 4 rfl (by kernel_rfl) ?_) | (refine AggP.go 5 rfl (by kernel_rfl) ?_) | (refine AggP.go 8 rfl (by kernel_rfl) ?_) | (refine AggP.go 11 rfl (by kernel_rfl) ?_) | apply CallP.own0 | apply CallP.own1 | apply CallP.own2 | apply CallP.own3 | apply CallP.nb | apply CutE.go0 | apply CutE.go7 | apply CutE.go6 | apply CutE.go5 | apply CutE.go4 | apply CutE.go3 | apply CutE.go2 | apply CutE.go1 | apply RoP.id | apply wrapS | (with_reducible exact lenNil) | apply Eq.refl)) | ((first | (with_reducible show rvEq _ _ _ _) | (with_reducible show svEq _ _ _ _) | (with_reducible show cellEq _ _ _ _) | (with_reducible show blkEq _ _ _)); conv => whnf))
def W2 : List (Nat × FSpec) := [(46, s_load), (47, s_move), (48, s_plus), (49, s_mask), (50, s_add), (51, s_sub),
  (52, s_and), (53, s_xor), (54, s_less), (55, s_jump), (56, s_zero), (57, s_some), (58, s_who)]
theorem W2_ok : GOK Try.prog (tab W2) := gok_cons load_wk (gok_cons move_wk (gok_cons plus_wk (gok_cons mask_wk (gok_cons add_wk (gok_cons sub_wk (gok_cons and_wk (gok_cons xor_wk (gok_cons less_wk (gok_cons jump_wk (gok_cons zero_wk (gok_cons some_wk (gok_cons who_wk (gok_nil _)))))))))))))
def L5 : List (Nat × FSpec) := (37, sReady) :: (38, sAll) :: (40, sMayH) :: L1
theorem L5_ok : GOK Try.prog (tab L5) := gok_cons ready_ok (gok_cons all_ok (gok_cons mayH_ok L1_ok))
def L6 : List (Nat × FSpec) := (46, s_load) :: (47, s_move) :: (48, s_plus) :: (49, s_mask) :: (50, s_add) :: (51, s_sub) ::
  (52, s_and) :: (53, s_xor) :: (54, s_less) :: (55, s_jump) :: (56, s_zero) :: (57, s_some) :: (58, s_who) :: L5
theorem L6_ok : GOK Try.prog (tab L6) := gok_cons load_wk (gok_cons move_wk (gok_cons plus_wk (gok_cons mask_wk (gok_cons add_wk (gok_cons sub_wk (gok_cons and_wk (gok_cons xor_wk (gok_cons less_wk (gok_cons jump_wk (gok_cons zero_wk (gok_cons some_wk (gok_cons who_wk L5_ok))))))))))))
end Go.Eng
