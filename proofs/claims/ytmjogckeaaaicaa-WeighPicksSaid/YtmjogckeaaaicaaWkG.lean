/- WeighLess, walked. -/
import Derived.Test.YtmjogckeaaaicaaWkE
import Derived.Test.YtmjogckeaaaicaaWkF
set_option linter.unusedVariables false
set_option linter.unusedSimpArgs false
namespace Go.Eng
open Go Go.Proofs

def Wk8 : List (Nat × FSpec) := (16, sLess) :: (17, sRLeast) :: Wk5
theorem Wk8_ok : GOK Try.prog (tab Wk8) := gok_cons rless_ok (gok_cons rleast_ok Wk5_ok)
theorem okF_snoc {l : List Nat} {a : Nat} (h : OkF l) (ha : a < 2 ^ 64) : OkF (l ++ [a]) := ⟨fun i hi => by
  rw [List.length_append] at hi
  simp only [List.length_cons, List.length_nil] at hi
  by_cases e : i < l.length
  · rw [List.getD_eq_getElem?_getD, List.getElem?_append_left e, ← List.getD_eq_getElem?_getD]; exact h.at' i e
  · have : i = l.length := by omega
    subst this
    rw [List.getD_eq_getElem?_getD, List.getElem?_append_right (Nat.le_refl _), Nat.sub_self]; exact ha⟩
def sWLess : FSpec := spec (List Nat × Nat × Nat) (fun (l, a, b) => [.c (flsS l), .c (Cell.f a), .c (Cell.f b)]) (fun (l, a, b) => OkL l ∧ a < 2 ^ 64 ∧ b < 2 ^ 64) fun _ => .b true
set_option maxHeartbeats 8000000 in
set_option maxRecDepth 100000 in
theorem wless_ok : Meets Try.prog 4 sWLess := by
  refine meets_plain Wk8_ok rfl [3, 4] (fn := Try.f4) rfl rfl rfl (by decide) fun ⟨l, a, b⟩ hh => ?_
  have hok := okF_take (show OkL l from hh.1) 12
  have h12 : (l.take 12).length ≤ 12 := List.length_take_le _ _
  have ha : a < 2 ^ 64 := hh.2.1
  have hb : b < 2 ^ 64 := hh.2.2
  clear hh
  have hok2 := okF_snoc hok ha
  have hl2 : (l.take 12 ++ [a]).length = (l.take 12).length + 1 := by rw [List.length_append]; rfl
  have hcell : ∀ i t, i < (l.take 12 ++ [a]).length → t < 1 → slG encF (l.take 12 ++ [a]) i t = catG (0 + (l.take 12).length) (catG 0 (litG 1 []) (slG encF (l.take 12))) (litG 1 [Cell.f a]) i t := fun i t hi ht => by
    have e : catG 0 (litG 1 []) (slG encF (l.take 12)) = slG encF (l.take 12) := by
      funext i t; unfold catG; rw [if_neg (Nat.not_lt_zero _), Nat.sub_zero]
    rw [slG_snocG (q := 1) (cs := [Cell.f a]) rfl hi ht rfl, Nat.zero_add, e]
  have e0 : firstF (fun _ => true) ((l.take 12) ++ [a]) = leastG ((l.take 12) ++ [a]) ((l.take 12) ++ [a]).length := by
    unfold leastG
    rw [if_neg (by omega)]; rfl
  repeat' (first | (intro h; first | exact Bool.noConfusion h | (guard_hyp h : true = true; clear h) | (guard_hyp h : false = false; clear h) | (simp only [decide_eq_true_eq, decide_eq_false_iff_not, beq_iff_eq, beq_eq_false_iff_ne, bne_iff_ne, bne_eq_false_iff_eq, Bool.not_eq_true', Bool.not_eq_false', ne_eq, Classical.not_not, Bool.not_true, Bool.not_false, beqL_iff, beqL_ff, List.cons.injEq, and_true] at h) | skip) | ((conv => whnf) <;> (first | exact True.intro | apply br_rec | apply And.intro | apply EntP.k0 | apply EntP.k1 | apply EntP.k2 | apply EntP.k3 | apply EntP.k4 | apply EntP.k5 | apply EntP.k6 | apply DrawP.go | (apply AnyP.mk; kernel_rfl) | (refine AggP.go 2 rfl (by kernel_rfl) ?_) | (refine AggP.go 1 rfl (by kernel_rfl) ?_) | (refine AggP.go 3 rfl (by kernel_rfl) ?_) | (refine AggP.go 4 rfl (by kernel_rfl) ?_) | (refine AggP.go 5 rfl (by kernel_rfl) ?_) | (refine AggP.go 8 rfl (by kernel_rfl) ?_) | (refine AggP.go 11 rfl (by kernel_rfl) ?_) | apply CallP.own0 | apply CallP.own1 | apply CallP.own2 | apply CallP.own3 | apply CallP.nb | apply CutE.go0 | apply CutE.go7 | apply CutE.go6 | apply CutE.go5 | apply CutE.go4 | apply CutE.go3 | apply CutE.go2 | apply CutE.go1 | apply RoP.id | apply wrapS | (with_reducible exact lenNil) | apply Eq.refl)) | ((first | (with_reducible show rvEq _ _ _ _) | (with_reducible show svEq _ _ _ _) | (with_reducible show cellEq _ _ _ _) | (with_reducible show blkEq _ _ _)); conv => whnf))
  all_goals try first
    | omega
    | (show (0 + (l.take 12).length) * 8 ≤ _; omega)
    | (show (0 + (l.take 12).length + 1) * 8 ≤ _; omega)
  apply CutP.up (G := Unit) (fun _ => True) [0, 1, 2, 7, 8] (fun _ => [(7, .i (firstF (fun _ => true) ((l.take 12) ++ [a]))), (8, .i 0)]) (fun _ => []) 4
  apply And.intro
  · repeat' (first | (intro h; first | exact Bool.noConfusion h | (guard_hyp h : true = true; clear h) | (guard_hyp h : false = false; clear h) | (simp only [decide_eq_true_eq, decide_eq_false_iff_not, beq_iff_eq, beq_eq_false_iff_ne, bne_iff_ne, bne_eq_false_iff_eq, Bool.not_eq_true', Bool.not_eq_false', ne_eq, Classical.not_not, Bool.not_true, Bool.not_false, beqL_iff, beqL_ff, List.cons.injEq, and_true] at h) | skip) | ((conv => whnf) <;> (first | exact True.intro | apply br_rec | apply And.intro | refine CutE.at (A := List Nat) ((l.take 12) ++ [a]) ?_ | refine CutE.at (A := Unit) () ?_ | apply EntP.id 4 | apply EntP.k0 | apply EntP.k1 | apply EntP.k2 | apply EntP.k3 | apply EntP.k4 | apply EntP.k5 | apply EntP.k6 | apply DrawP.go | (apply AnyP.mk; kernel_rfl) | (refine AggP.go 2 rfl (by kernel_rfl) ?_) | (refine AggP.go 1 rfl (by kernel_rfl) ?_) | (refine AggP.go 3 rfl (by kernel_rfl) ?_) | (refine AggP.go 4 rfl (by kernel_rfl) ?_) | (refine AggP.go 5 rfl (by kernel_rfl) ?_) | (refine AggP.go 8 rfl (by kernel_rfl) ?_) | (refine AggP.go 11 rfl (by kernel_rfl) ?_) | apply CallP.own0 | apply CallP.own1 | apply CallP.own2 | apply CallP.own3 | apply CallP.nb | apply CutE.go0 | apply CutE.go7 | apply CutE.go6 | apply CutE.go5 | apply CutE.go4 | apply CutE.go3 | apply CutE.go2 | apply CutE.go1 | apply RoP.id | apply wrapS | (with_reducible exact lenNil) | apply Eq.refl)) | ((first | (with_reducible show rvEq _ _ _ _) | (with_reducible show svEq _ _ _ _) | (with_reducible show cellEq _ _ _ _) | (with_reducible show blkEq _ _ _)); conv => whnf))
    all_goals first
      | omega
      | exact hok2
      | (show ((l.take 12) ++ [a]).length ≤ 1000; omega)
      | exact ⟨fun i hi => absurd hi (Nat.not_lt_zero _)⟩
      | exact Nat.zero_le _
      | (rw [if_neg (by omega)]; done)
      | (rw [if_neg (by omega)])
      | rfl
      | exact hcell _ _ (by assumption) (by assumption)
      | trace_state
  rintro ⟨⟩ _
  apply CutP.up (G := Unit) (fun _ => True) [0, 1, 2, 7, 8, 9, 10] (fun _ => [(9, .i 0), (10, .i 8)]) (fun _ => []) 4
  apply And.intro
  · repeat' (first | (intro h; first | exact Bool.noConfusion h | (guard_hyp h : true = true; clear h) | (guard_hyp h : false = false; clear h) | (simp only [decide_eq_true_eq, decide_eq_false_iff_not, beq_iff_eq, beq_eq_false_iff_ne, bne_iff_ne, bne_eq_false_iff_eq, Bool.not_eq_true', Bool.not_eq_false', ne_eq, Classical.not_not, Bool.not_true, Bool.not_false, beqL_iff, beqL_ff, List.cons.injEq, and_true] at h) | skip) | ((conv => whnf) <;> (first | exact True.intro | apply br_rec | apply And.intro | refine CutE.at (A := List Nat) [] ?_ | refine CutE.at (A := Unit) () ?_ | apply EntP.id 4 | apply EntP.k0 | apply EntP.k1 | apply EntP.k2 | apply EntP.k3 | apply EntP.k4 | apply EntP.k5 | apply EntP.k6 | apply DrawP.go | (apply AnyP.mk; kernel_rfl) | (refine AggP.go 2 rfl (by kernel_rfl) ?_) | (refine AggP.go 1 rfl (by kernel_rfl) ?_) | (refine AggP.go 3 rfl (by kernel_rfl) ?_) | (refine AggP.go 4 rfl (by kernel_rfl) ?_) | (refine AggP.go 5 rfl (by kernel_rfl) ?_) | (refine AggP.go 8 rfl (by kernel_rfl) ?_) | (refine AggP.go 11 rfl (by kernel_rfl) ?_) | apply CallP.own0 | apply CallP.own1 | apply CallP.own2 | apply CallP.own3 | apply CallP.nb | apply CutE.go0 | apply CutE.go7 | apply CutE.go6 | apply CutE.go5 | apply CutE.go4 | apply CutE.go3 | apply CutE.go2 | apply CutE.go1 | apply RoP.id | apply wrapS | (with_reducible exact lenNil) | apply Eq.refl)) | ((first | (with_reducible show rvEq _ _ _ _) | (with_reducible show svEq _ _ _ _) | (with_reducible show cellEq _ _ _ _) | (with_reducible show blkEq _ _ _)); conv => whnf))
    all_goals first
      | omega
      | exact hok2
      | (show ((l.take 12) ++ [a]).length ≤ 1000; omega)
      | exact ⟨fun i hi => absurd hi (Nat.not_lt_zero _)⟩
      | exact Nat.zero_le _
      | (rw [if_neg (by omega)]; done)
      | (rw [if_neg (by omega)])
      | rfl
      | exact hcell _ _ (by assumption) (by assumption)
      | trace_state
  rintro ⟨⟩ _
  repeat' (first | (intro h; first | exact Bool.noConfusion h | (guard_hyp h : true = true; clear h) | (guard_hyp h : false = false; clear h) | (simp only [decide_eq_true_eq, decide_eq_false_iff_not, beq_iff_eq, beq_eq_false_iff_ne, bne_iff_ne, bne_eq_false_iff_eq, Bool.not_eq_true', Bool.not_eq_false', ne_eq, Classical.not_not, Bool.not_true, Bool.not_false, beqL_iff, beqL_ff, List.cons.injEq, and_true] at h) | skip) | ((conv => whnf) <;> (first | exact True.intro | apply br_rec | apply And.intro | refine CutE.at (A := List Nat) ((l.take 12) ++ [a]) ?_ | apply EntP.k0 | apply EntP.k1 | apply EntP.k2 | apply EntP.k3 | apply EntP.k4 | apply EntP.k5 | apply EntP.k6 | apply DrawP.go | (apply AnyP.mk; kernel_rfl) | (refine AggP.go 2 rfl (by kernel_rfl) ?_) | (refine AggP.go 1 rfl (by kernel_rfl) ?_) | (refine AggP.go 3 rfl (by kernel_rfl) ?_) | (refine AggP.go 4 rfl (by kernel_rfl) ?_) | (refine AggP.go 5 rfl (by kernel_rfl) ?_) | (refine AggP.go 8 rfl (by kernel_rfl) ?_) | (refine AggP.go 11 rfl (by kernel_rfl) ?_) | apply CallP.own0 | apply CallP.own1 | apply CallP.own2 | apply CallP.own3 | apply CallP.nb | apply CutE.go0 | apply CutE.go7 | apply CutE.go6 | apply CutE.go5 | apply CutE.go4 | apply CutE.go3 | apply CutE.go2 | apply CutE.go1 | apply RoP.id | apply wrapS | (with_reducible exact lenNil) | apply Eq.refl)) | ((first | (with_reducible show rvEq _ _ _ _) | (with_reducible show svEq _ _ _ _) | (with_reducible show cellEq _ _ _ _) | (with_reducible show blkEq _ _ _)); conv => whnf))
  all_goals first
    | omega
    | exact ha
    | exact hb
    | exact hok2
    | (show ((l.take 12) ++ [a]).length ≤ 1000; omega)
    | exact hcell _ _ (by assumption) (by assumption)
    | (exfalso; exact absurd e0 (by assumption))
    | (exfalso; exact absurd True.intro (by assumption))
    | trace_state
end Go.Eng
