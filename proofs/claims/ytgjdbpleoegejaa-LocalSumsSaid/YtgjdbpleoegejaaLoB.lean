/- Instructions that need no memory: in, ready. -/
import Derived.Test.YtgjdbpleoegejaaLoA
set_option linter.unusedVariables false
set_option linter.unusedSimpArgs false
namespace Go.Eng
open Go Go.Proofs

def inF (n lo hi : Int) : Bool := decide (lo ≤ n ∧ n ≤ hi)
def sIn : FSpec := spec (Int × Int × Int) (fun (n, lo, hi) => [.i n, .i lo, .i hi]) (fun _ => True) fun (n, lo, hi) => .b (inF n lo hi)
set_option maxHeartbeats 4000000 in
set_option maxRecDepth 100000 in
theorem in_ok : Meets Try.prog 39 sIn := by
  refine meets_plain (gok_nil _) rfl [] (fn := Try.f39) rfl rfl rfl (by decide) fun ⟨n, lo, hi⟩ _ => ?_
  repeat' (first | (intro h; first | exact Bool.noConfusion h | (guard_hyp h : true = true; clear h) | (guard_hyp h : false = false; clear h) | (simp only [decide_eq_true_eq, decide_eq_false_iff_not, beq_iff_eq, beq_eq_false_iff_ne, bne_iff_ne, bne_eq_false_iff_eq, Bool.not_eq_true', Bool.not_eq_false', ne_eq, Classical.not_not, Bool.not_true, Bool.not_false, beqL_iff, beqL_ff, List.cons.injEq, and_true] at h) | skip) | ((conv => whnf) <;> (first | exact True.intro | apply br_rec | apply And.intro | apply EntP.k0 | apply EntP.k1 | apply EntP.k2 | apply EntP.k3 | apply EntP.k4 | apply EntP.k5 | apply EntP.k6 | apply DrawP.go | (apply AnyP.mk; kernel_rfl) | (refine AggP.go 2 rfl (by kernel_rfl) ?_) | (refine AggP.go 1 rfl (by kernel_rfl) ?_) | (refine AggP.go 3 rfl (by kernel_rfl) ?_) | (refine AggP.go 4 rfl (by kernel_rfl) ?_) | (refine AggP.go 5 rfl (by kernel_rfl) ?_) | (refine AggP.go 8 rfl (by kernel_rfl) ?_) | (refine AggP.go 11 rfl (by kernel_rfl) ?_) | apply CallP.own0 | apply CallP.own1 | apply CallP.own2 | apply CallP.own3 | apply CallP.nb | apply CutE.go0 | apply CutE.go7 | apply CutE.go6 | apply CutE.go5 | apply CutE.go4 | apply CutE.go3 | apply CutE.go2 | apply CutE.go1 | apply RoP.id | apply wrapS | (with_reducible exact lenNil) | apply Eq.refl)) | ((first | (with_reducible show rvEq _ _ _ _) | (with_reducible show svEq _ _ _ _) | (with_reducible show cellEq _ _ _ _) | (with_reducible show blkEq _ _ _)); conv => whnf))
  all_goals first
    | (show inF n lo hi = _; simp only [inF]; (first | (apply decide_eq_false; omega) | (apply decide_eq_true; omega) | (congr 1; apply propext; omega)))
    | trace_state
def readyF (t : Th) (s : Int) : Int := if thR t = true ∧ inF s 0 7 = true then (if t.st = 0 ∧ t.lf.length = 0 then 0 else 9) else 1
def sReady : FSpec := spec (Th × Int) (fun (t, s) => [.agg (thC t), .i s]) (fun (t, _) => SmallT t) fun (t, s) => .i (readyF t s)
def L1 : List (Nat × FSpec) := (39, sIn) :: F6
theorem L1_ok : GOK Try.prog (tab L1) := gok_cons in_ok F6_ok
set_option maxHeartbeats 4000000 in
set_option maxRecDepth 100000 in
theorem ready_ok : Meets Try.prog 37 sReady := by
  refine meets_plain L1_ok rfl [] (fn := Try.f37) rfl rfl rfl (by decide) fun ⟨⟨pc, r0, r1, r2, r3, r4, r5, r6, r7, fs, st, fa, lf⟩, s⟩ hS => ?_
  repeat' (first | (intro h; first | exact Bool.noConfusion h | (guard_hyp h : true = true; clear h) | (guard_hyp h : false = false; clear h) | (simp only [decide_eq_true_eq, decide_eq_false_iff_not, beq_iff_eq, beq_eq_false_iff_ne, bne_iff_ne, bne_eq_false_iff_eq, Bool.not_eq_true', Bool.not_eq_false', ne_eq, Classical.not_not, Bool.not_true, Bool.not_false, beqL_iff, beqL_ff, List.cons.injEq, and_true] at h) | skip) | ((conv => whnf) <;> (first | exact True.intro | apply br_rec | apply And.intro | apply CutE.goTh | apply EntP.k0 | apply EntP.k1 | apply EntP.k2 | apply EntP.k3 | apply EntP.k4 | apply EntP.k5 | apply EntP.k6 | apply DrawP.go | (apply AnyP.mk; kernel_rfl) | (refine AggP.go 2 rfl (by kernel_rfl) ?_) | (refine AggP.go 1 rfl (by kernel_rfl) ?_) | (refine AggP.go 3 rfl (by kernel_rfl) ?_) | (refine AggP.go 4 rfl (by kernel_rfl) ?_) | (refine AggP.go 5 rfl (by kernel_rfl) ?_) | (refine AggP.go 8 rfl (by kernel_rfl) ?_) | (refine AggP.go 11 rfl (by kernel_rfl) ?_) | apply CallP.own0 | apply CallP.own1 | apply CallP.own2 | apply CallP.own3 | apply CallP.nb | apply CutE.go0 | apply CutE.go7 | apply CutE.go6 | apply CutE.go5 | apply CutE.go4 | apply CutE.go3 | apply CutE.go2 | apply CutE.go1 | apply RoP.id | apply wrapS | (with_reducible exact lenNil) | apply Eq.refl)) | ((first | (with_reducible show rvEq _ _ _ _) | (with_reducible show svEq _ _ _ _) | (with_reducible show cellEq _ _ _ _) | (with_reducible show blkEq _ _ _)); conv => whnf))
  all_goals try simp only at *
  all_goals first
    | exact hS.1
    | exact hS.2
    | (rw [readyF, if_neg (fun hh => Bool.noConfusion (hh.1.symm.trans h))]; done)
    | (rw [readyF, if_neg (fun hh => Bool.noConfusion (hh.2.symm.trans h))]; done)
    | (rw [readyF, if_pos ⟨by assumption, by assumption⟩, if_neg (by show ¬ (st = 0 ∧ lf.length = 0); omega)]; done)
    | (rw [readyF, if_pos ⟨by assumption, by assumption⟩, if_pos (by show st = 0 ∧ lf.length = 0; omega)]; done)
    | trace_state
end Go.Eng
