/- HistoryAlikes, walked. -/
import Derived.Test.YthhangpcedbhdaaHiJ
set_option linter.unusedVariables false
set_option linter.unusedSimpArgs false
namespace Go.Eng
open Go Go.Proofs

def H9 : List (Nat × FSpec) := (36, sAlike) :: (37, sRRight) :: (38, sRAlike) :: H3
theorem H9_ok : GOK Try.prog (tab H9) := gok_cons alike_ok (gok_cons rright_ok (gok_cons ralike_ok H3_ok))
def sHAlikes : FSpec := spec (List Ev × List Ev) (fun (a, b) => [.c (evsS a), .c (evsS b)]) (fun _ => True) fun _ => .b true
set_option maxHeartbeats 8000000 in
set_option maxRecDepth 100000 in
theorem halikes_ok : Meets Try.prog 11 sHAlikes := by
  refine meets_plain H9_ok rfl [] (fn := Try.f11) rfl rfl rfl (by decide) fun ⟨a, b⟩ _ => ?_
  have ha : (a.take 40).length ≤ 40 := List.length_take_le _ _
  have hb : (b.take 40).length ≤ 40 := List.length_take_le _ _
  have ha2 : (a.take 40).length ≤ 1000 := by omega
  have hb2 : (b.take 40).length ≤ 1000 := by omega
  have ha3 : (a.take 40).length ≤ 100 := by omega
  have hb3 : (b.take 40).length ≤ 100 := by omega
  cases hra : hRight (a.take 40) with
  | false =>
    repeat' (first | (intro h; first | exact Bool.noConfusion h | (guard_hyp h : true = true; clear h) | (guard_hyp h : false = false; clear h) | (simp only [decide_eq_true_eq, decide_eq_false_iff_not, beq_iff_eq, beq_eq_false_iff_ne, bne_iff_ne, bne_eq_false_iff_eq, Bool.not_eq_true', Bool.not_eq_false', ne_eq, Classical.not_not, Bool.not_true, Bool.not_false, beqL_iff, beqL_ff, List.cons.injEq, and_true] at h) | skip) | ((conv => whnf) <;> (first | exact True.intro | apply br_rec | apply And.intro | apply EntP.k0 | apply EntP.k1 | apply EntP.k2 | apply EntP.k3 | apply EntP.k4 | apply EntP.k5 | apply EntP.k6 | apply DrawP.go | (apply AnyP.mk; kernel_rfl) | (refine AggP.go 2 rfl (by kernel_rfl) ?_) | (refine AggP.go 1 rfl (by kernel_rfl) ?_) | (refine AggP.go 3 rfl (by kernel_rfl) ?_) | (refine AggP.go 4 rfl (by kernel_rfl) ?_) | (refine AggP.go 5 rfl (by kernel_rfl) ?_) | (refine AggP.go 8 rfl (by kernel_rfl) ?_) | (refine AggP.go 11 rfl (by kernel_rfl) ?_) | (refine AggP.go 10 rfl (by kernel_rfl) ?_) | (refine PairP.go (by kernel_rfl) ?_) | apply CallP.own0 | apply CallP.own1 | apply CallP.own2 | apply CallP.own3 | apply CallP.nb | apply CutE.go0 | apply CutE.go7 | apply CutE.go6 | apply CutE.go5 | apply CutE.go4 | apply CutE.go3 | apply CutE.go2 | apply CutE.go1 | apply RoP.id | apply wrapS | (with_reducible exact lenNil) | apply Eq.refl)) | ((first | (with_reducible show rvEq _ _ _ _) | (with_reducible show svEq _ _ _ _) | (with_reducible show cellEq _ _ _ _) | (with_reducible show blkEq _ _ _)); conv => whnf))
    all_goals first
      | exact ha2
      | exact hb2
      | exact ha3
      | exact hb3
      | exact ()
      | (rw [hra]; rfl)
      | (exfalso; exact Bool.noConfusion (hra.symm.trans (by assumption)))
      | (exfalso; have q : ¬ (if (hRight (a.take 40) && hRight (b.take 40)) = true then (0 : Int) else 1) = 1 := h
         rw [hra] at q; exact q rfl)
      | trace_state
  | true =>
  cases hrb : hRight (b.take 40) with
  | false =>
    repeat' (first | (intro h; first | exact Bool.noConfusion h | (guard_hyp h : true = true; clear h) | (guard_hyp h : false = false; clear h) | (simp only [decide_eq_true_eq, decide_eq_false_iff_not, beq_iff_eq, beq_eq_false_iff_ne, bne_iff_ne, bne_eq_false_iff_eq, Bool.not_eq_true', Bool.not_eq_false', ne_eq, Classical.not_not, Bool.not_true, Bool.not_false, beqL_iff, beqL_ff, List.cons.injEq, and_true] at h) | skip) | ((conv => whnf) <;> (first | exact True.intro | apply br_rec | apply And.intro | apply EntP.k0 | apply EntP.k1 | apply EntP.k2 | apply EntP.k3 | apply EntP.k4 | apply EntP.k5 | apply EntP.k6 | apply DrawP.go | (apply AnyP.mk; kernel_rfl) | (refine AggP.go 2 rfl (by kernel_rfl) ?_) | (refine AggP.go 1 rfl (by kernel_rfl) ?_) | (refine AggP.go 3 rfl (by kernel_rfl) ?_) | (refine AggP.go 4 rfl (by kernel_rfl) ?_) | (refine AggP.go 5 rfl (by kernel_rfl) ?_) | (refine AggP.go 8 rfl (by kernel_rfl) ?_) | (refine AggP.go 11 rfl (by kernel_rfl) ?_) | (refine AggP.go 10 rfl (by kernel_rfl) ?_) | (refine PairP.go (by kernel_rfl) ?_) | apply CallP.own0 | apply CallP.own1 | apply CallP.own2 | apply CallP.own3 | apply CallP.nb | apply CutE.go0 | apply CutE.go7 | apply CutE.go6 | apply CutE.go5 | apply CutE.go4 | apply CutE.go3 | apply CutE.go2 | apply CutE.go1 | apply RoP.id | apply wrapS | (with_reducible exact lenNil) | apply Eq.refl)) | ((first | (with_reducible show rvEq _ _ _ _) | (with_reducible show svEq _ _ _ _) | (with_reducible show cellEq _ _ _ _) | (with_reducible show blkEq _ _ _)); conv => whnf))
    all_goals first
      | exact ha2
      | exact hb2
      | exact ha3
      | exact hb3
      | exact ()
      | (rw [hra, hrb]; rfl)
      | (exfalso; exact Bool.noConfusion (hra.symm.trans (by assumption)))
      | (exfalso; exact Bool.noConfusion (hrb.symm.trans (by assumption)))
      | (exfalso; have q : ¬ (if (hRight (a.take 40) && hRight (b.take 40)) = true then (0 : Int) else 1) = 1 := h
         rw [hra, hrb] at q; exact q rfl)
      | trace_state
  | true =>
    have hx := alike_is (spU_of hra) (spU_of hrb)
    rw [spansF_is hra, spansF_is hrb] at hx
    have hres : (hRight (a.take 40) && hRight (b.take 40) && alikeF (spansF (a.take 40)) (spansF (b.take 40))) = alikeR (spG (a.take 40) (a.take 40).length) (spG (b.take 40) (b.take 40).length) := by
      rw [hra, hrb, spansF_is hra, spansF_is hrb, hx]; simp
    have h01 : (if (hRight (a.take 40) && hRight (b.take 40)) = true then (0 : Int) else 1) = 0 := by rw [hra, hrb]; rfl
    repeat' (first | (intro h; first | exact Bool.noConfusion h | (guard_hyp h : true = true; clear h) | (guard_hyp h : false = false; clear h) | (simp only [decide_eq_true_eq, decide_eq_false_iff_not, beq_iff_eq, beq_eq_false_iff_ne, bne_iff_ne, bne_eq_false_iff_eq, Bool.not_eq_true', Bool.not_eq_false', ne_eq, Classical.not_not, Bool.not_true, Bool.not_false, beqL_iff, beqL_ff, List.cons.injEq, and_true] at h) | skip) | ((conv => whnf) <;> (first | exact True.intro | apply br_rec | apply And.intro | apply EntP.k0 | apply EntP.k1 | apply EntP.k2 | apply EntP.k3 | apply EntP.k4 | apply EntP.k5 | apply EntP.k6 | apply DrawP.go | (apply AnyP.mk; kernel_rfl) | (refine AggP.go 2 rfl (by kernel_rfl) ?_) | (refine AggP.go 1 rfl (by kernel_rfl) ?_) | (refine AggP.go 3 rfl (by kernel_rfl) ?_) | (refine AggP.go 4 rfl (by kernel_rfl) ?_) | (refine AggP.go 5 rfl (by kernel_rfl) ?_) | (refine AggP.go 8 rfl (by kernel_rfl) ?_) | (refine AggP.go 11 rfl (by kernel_rfl) ?_) | (refine AggP.go 10 rfl (by kernel_rfl) ?_) | (refine PairP.go (by kernel_rfl) ?_) | apply CallP.own0 | apply CallP.own1 | apply CallP.own2 | apply CallP.own3 | apply CallP.nb | apply CutE.go0 | apply CutE.go7 | apply CutE.go6 | apply CutE.go5 | apply CutE.go4 | apply CutE.go3 | apply CutE.go2 | apply CutE.go1 | apply RoP.id | apply wrapS | (with_reducible exact lenNil) | apply Eq.refl)) | ((first | (with_reducible show rvEq _ _ _ _) | (with_reducible show svEq _ _ _ _) | (with_reducible show cellEq _ _ _ _) | (with_reducible show blkEq _ _ _)); conv => whnf))
    all_goals first
      | exact ha2
      | exact hb2
      | exact ha3
      | exact hb3
      | exact ()
      | (rw [hres]; simp; done)
      | (exfalso; exact Bool.noConfusion (hra.symm.trans (by assumption)))
      | (exfalso; exact Bool.noConfusion (hrb.symm.trans (by assumption)))
      | (exfalso; exact absurd h01 h)
      | (rw [h01]; rfl)
      | trace_state
end Go.Eng
