/- The machine's reference, more. -/
import Derived.Test.YtpcimaemigchiaaTsoD
set_option linter.unusedVariables false
set_option linter.unusedSimpArgs false
namespace Go.Eng
open Go Go.Proofs

def R2 : List (Nat × FSpec) := (74, sDrop) :: R1
theorem R2_ok : GOK Try.prog (tab R2) := gok_cons drop_ok R1_ok
def sRTFlush : FSpec := spec TsoI (fun (ws, ts, d, l, i) => [.agg (tsoC ws ts d l), .i i]) (fun (ws, ts, d, l, i) => hasF ws ts d l i = true) fun (ws, ts, d, l, i) => .tup [rTso (flushT (ws, ts, d, l) i).1, .c (.i (flushT (ws, ts, d, l) i).2)]
set_option maxHeartbeats 4000000 in
set_option maxRecDepth 100000 in
theorem rtflush_ok : Meets Try.prog 58 sRTFlush := by
  refine meets_plain R2_ok rfl [] (fn := Try.f58) rfl rfl rfl (by decide) fun ⟨ws, ts, d, l, i⟩ hh => ?_
  have hh : hasF ws ts d l i = true := hh
  have h2 := (hasF_iff.1 hh).2
  have h3 := hasF_len hh
  have h4 := hasF_sz hh
  repeat' (first | (intro h; first | exact Bool.noConfusion h | (guard_hyp h : true = true; clear h) | (guard_hyp h : false = false; clear h) | (simp only [decide_eq_true_eq, decide_eq_false_iff_not, beq_iff_eq, beq_eq_false_iff_ne, bne_iff_ne, bne_eq_false_iff_eq, Bool.not_eq_true', Bool.not_eq_false', ne_eq, Classical.not_not, Bool.not_true, Bool.not_false, beqL_iff, beqL_ff, List.cons.injEq, and_true] at h) | skip) | ((conv => whnf) <;> (first | exact True.intro | apply br_rec | apply And.intro | apply EntP.k0 | apply EntP.k1 | apply EntP.k2 | apply EntP.k3 | apply EntP.k4 | apply EntP.k5 | apply EntP.k6 | apply DrawP.go | (apply AnyP.mk; kernel_rfl) | (refine AggP.go 2 rfl (by kernel_rfl) ?_) | (refine AggP.go 1 rfl (by kernel_rfl) ?_) | (refine AggP.go 3 rfl (by kernel_rfl) ?_) | (refine AggP.go 4 rfl (by kernel_rfl) ?_) | (refine AggP.go 5 rfl (by kernel_rfl) ?_) | (refine AggP.go 8 rfl (by kernel_rfl) ?_) | (refine AggP.go 11 rfl (by kernel_rfl) ?_) | apply CallP.own0 | apply CallP.own1 | apply CallP.own2 | apply CallP.own3 | apply CallP.nb | apply CutE.go0 | apply CutE.go7 | apply CutE.go6 | apply CutE.go5 | apply CutE.go4 | apply CutE.go3 | apply CutE.go2 | apply CutE.go1 | apply RoP.id | apply wrapS | (with_reducible exact lenNil) | apply Eq.refl)) | ((first | (with_reducible show rvEq _ _ _ _) | (with_reducible show svEq _ _ _ _) | (with_reducible show cellEq _ _ _ _) | (with_reducible show blkEq _ _ _)); conv => whnf))
  all_goals try simp only [Int.toNat_zero] at *
  all_goals first
    | omega
    | rfl
    | exact hh
    | exact hasF_mem hh
    | (show 0 < (l.getD i.toNat default).length; omega)
    | (have h8 : ¬ (l.getD i.toNat default).length = 0 := (by assumption)
       first
        | (simp only [flushT, *, ↓reduceIte, Bool.false_eq_true]; done)
        | ((simp only [flushT, *, ↓reduceIte, Bool.false_eq_true]) <;> rfl))
    | (have h8 : ¬ (l.getD i.toNat default).length = 0 := (by omega)
       first
        | (simp only [flushT, *, ↓reduceIte, Bool.false_eq_true]; done)
        | ((simp only [flushT, *, ↓reduceIte, Bool.false_eq_true]) <;> rfl))
    | (have h8 : (l.getD i.toNat default).length = 0 := (by omega)
       first
        | (simp only [flushT, *, ↓reduceIte, Bool.false_eq_true]; done)
        | ((simp only [flushT, *, ↓reduceIte, Bool.false_eq_true]) <;> rfl))
    | trace_state

def sRTLock : FSpec := spec (List Int × List Int × Int × List (List Put) × Int × Int × Int × Int × Int) (fun (ws, ts, d, l, i, k, a, x, y) => [.agg (tsoC ws ts d l), .i i, .i k, .i a, .i x, .i y]) (fun (ws, ts, d, l, i, k, _) => hasF ws ts d l i = true ∧ 0 ≤ k ∧ k < 3)
  fun (ws, ts, d, l, i, k, a, x, y) => .tup [rTso (lockT (ws, ts, d, l) i k a x y).1, .c (.i (lockT (ws, ts, d, l) i k a x y).2.1), .c (.i (lockT (ws, ts, d, l) i k a x y).2.2)]
set_option maxHeartbeats 4000000 in
set_option maxRecDepth 100000 in
theorem rtlock_ok : Meets Try.prog 60 sRTLock := by
  refine meets_plain R2_ok rfl [] (fn := Try.f60) rfl rfl rfl (by decide) fun ⟨ws, ts, d, l, i, k, a, x, y⟩ hh => ?_
  have hh : hasF ws ts d l i = true ∧ 0 ≤ k ∧ k < 3 := hh
  have h2 := (hasF_iff.1 hh.1).2
  have h3 := hasF_len hh.1
  have h4 := hasF_sz hh.1
  have hk2 := hh.2
  repeat' (first | (intro h; first | exact Bool.noConfusion h | (guard_hyp h : true = true; clear h) | (guard_hyp h : false = false; clear h) | (simp only [decide_eq_true_eq, decide_eq_false_iff_not, beq_iff_eq, beq_eq_false_iff_ne, bne_iff_ne, bne_eq_false_iff_eq, Bool.not_eq_true', Bool.not_eq_false', ne_eq, Classical.not_not, Bool.not_true, Bool.not_false, beqL_iff, beqL_ff, List.cons.injEq, and_true] at h) | skip) | ((conv => whnf) <;> (first | exact True.intro | apply br_rec | apply And.intro | apply EntP.k0 | apply EntP.k1 | apply EntP.k2 | apply EntP.k3 | apply EntP.k4 | apply EntP.k5 | apply EntP.k6 | apply DrawP.go | (apply AnyP.mk; kernel_rfl) | (refine AggP.go 2 rfl (by kernel_rfl) ?_) | (refine AggP.go 1 rfl (by kernel_rfl) ?_) | (refine AggP.go 3 rfl (by kernel_rfl) ?_) | (refine AggP.go 4 rfl (by kernel_rfl) ?_) | (refine AggP.go 5 rfl (by kernel_rfl) ?_) | (refine AggP.go 8 rfl (by kernel_rfl) ?_) | (refine AggP.go 11 rfl (by kernel_rfl) ?_) | apply CallP.own0 | apply CallP.own1 | apply CallP.own2 | apply CallP.own3 | apply CallP.nb | apply CutE.go0 | apply CutE.go7 | apply CutE.go6 | apply CutE.go5 | apply CutE.go4 | apply CutE.go3 | apply CutE.go2 | apply CutE.go1 | apply RoP.id | apply wrapS | (with_reducible exact lenNil) | apply Eq.refl)) | ((first | (with_reducible show rvEq _ _ _ _) | (with_reducible show svEq _ _ _ _) | (with_reducible show cellEq _ _ _ _) | (with_reducible show blkEq _ _ _)); conv => whnf))
  all_goals first
    | omega
    | exact hasF_mem hh.1
    | (by_cases h9 : 0 < (l.getD i.toNat default).length
       · first
          | (exfalso; omega)
          | (simp only [lockT, hh, h9, and_self, ↓reduceIte]; done)
          | ((simp only [lockT, hh, h9, and_self, ↓reduceIte]) <;> rfl)
       · by_cases hl : (loadF ws ts a).2 = 0
         · obtain hk | hk | hk : k = 0 ∨ k = 1 ∨ k = 2 := by omega
           all_goals subst hk
           all_goals first
            | (exfalso; omega)
            | (have hb0 : ∀ w, becF 0 w x y = if w = x then y else w := fun w => rfl
               simp only [lockT, hh, h9, hl, hb0, and_self, ↓reduceIte, *]; done)
            | (have hb0 : ∀ w, becF 0 w x y = if w = x then y else w := fun w => rfl
               (simp only [lockT, hh, h9, hl, hb0, and_self, ↓reduceIte, *]) <;> rfl)
            | (have hb0 : ∀ w, becF 1 w x y = x := fun w => rfl
               simp only [lockT, hh, h9, hl, hb0, and_self, ↓reduceIte]; done)
            | (have hb0 : ∀ w, becF 1 w x y = x := fun w => rfl
               (simp only [lockT, hh, h9, hl, hb0, and_self, ↓reduceIte]) <;> rfl)
            | ((simp only [lockT, hh, h9, hl, and_self, ↓reduceIte]) <;> rfl)
            | (exfalso; simp_all; done)
         · first
            | (exfalso; omega)
            | (simp only [lockT, hh, h9, hl, and_self, ↓reduceIte]; done)
            | ((simp only [lockT, hh, h9, hl, and_self, ↓reduceIte]) <;> rfl)
            | (exfalso; simp_all; done))
    | trace_state
end Go.Eng
