/- PoolMoves and PoolLast, walked. -/
import Derived.Test.YtmjogckeaaaicaaPoG
set_option linter.unusedVariables false
set_option linter.unusedSimpArgs false
namespace Go.Eng
open Go Go.Proofs

theorem small_take {p : Pl} (h : SmallP p) : SmallP (takeP p).1 := by
  unfold takeP
  split
  · split
    · exact Nat.zero_le _
    · show (p.2.2.2.take _).length ≤ _
      rw [List.length_take]
      have : p.2.2.2.length ≤ 1000000 := h
      omega
  · exact Nat.zero_le _
theorem small_give {p : Pl} {x : Int} (h : p.2.2.2.length ≤ 100) : SmallP (giveP p x).1 ∧ (giveP p x).1.2.2.2.length ≤ 100000 := by
  unfold giveP
  split
  · split
    · split
      · exact ⟨Nat.zero_le _, Nat.zero_le _⟩
      · have : (p.2.2.2 ++ [x]).length = p.2.2.2.length + 1 := by rw [List.length_append]; rfl
        exact ⟨by show (p.2.2.2 ++ [x]).length ≤ 1000000; omega, by show (p.2.2.2 ++ [x]).length ≤ 100000; omega⟩
    · exact ⟨Nat.zero_le _, Nat.zero_le _⟩
  · exact ⟨Nat.zero_le _, Nat.zero_le _⟩
theorem small_held {p : Pl} (h : plR p = true ∨ plR p = false) : (heldP p).1.length ≤ 1000000 := by
  rcases h with h | h
  · rw [heldP_go h]
    have hp := plR_ok h
    have h1 := List.length_filter_le (fun x => !p.2.2.2.contains x) (plB p)
    rw [plB_len] at h1
    have h2 := hp.m16
    show ((plB p).filter fun x => !p.2.2.2.contains x).length ≤ 1000000
    omega
  · rw [heldP_no h]; exact Nat.zero_le _
def sPMoves : FSpec := spec (Pl × Int) (fun (p, x) => [.agg (plC p), .i x]) (fun _ => True) fun _ => .b true
set_option maxHeartbeats 8000000 in
set_option maxRecDepth 100000 in
theorem pmoves_ok : Meets Try.prog 9 sPMoves := by
  refine meets_plain P6_ok rfl [2] (fn := Try.f9) rfl rfl rfl (by decide) fun ⟨(s, b, m, l), x⟩ _ => ?_
  have hg : (l.take 20).length ≤ 20 := List.length_take_le _ _
  repeat' (first | (intro h; first | exact Bool.noConfusion h | (guard_hyp h : true = true; clear h) | (guard_hyp h : false = false; clear h) | (simp only [decide_eq_true_eq, decide_eq_false_iff_not, beq_iff_eq, beq_eq_false_iff_ne, bne_iff_ne, bne_eq_false_iff_eq, Bool.not_eq_true', Bool.not_eq_false', ne_eq, Classical.not_not, Bool.not_true, Bool.not_false, beqL_iff, beqL_ff, List.cons.injEq, and_true] at h) | skip) | ((conv => whnf) <;> (first | exact True.intro | apply br_rec | apply And.intro | apply CutE.goPl | apply EntP.k0 | apply EntP.k1 | apply EntP.k2 | apply EntP.k3 | apply EntP.k4 | apply EntP.k5 | apply EntP.k6 | apply DrawP.go | (apply AnyP.mk; kernel_rfl) | (refine AggP.go 2 rfl (by kernel_rfl) ?_) | (refine AggP.go 1 rfl (by kernel_rfl) ?_) | (refine AggP.go 3 rfl (by kernel_rfl) ?_) | (refine AggP.go 4 rfl (by kernel_rfl) ?_) | (refine AggP.go 5 rfl (by kernel_rfl) ?_) | (refine AggP.go 8 rfl (by kernel_rfl) ?_) | (refine AggP.go 11 rfl (by kernel_rfl) ?_) | apply CallP.own0 | apply CallP.own1 | apply CallP.own2 | apply CallP.own3 | apply CallP.nb | apply CutE.go0 | apply CutE.go7 | apply CutE.go6 | apply CutE.go5 | apply CutE.go4 | apply CutE.go3 | apply CutE.go2 | apply CutE.go1 | apply RoP.id | apply wrapS | (with_reducible exact lenNil) | apply Eq.refl)) | ((first | (with_reducible show rvEq _ _ _ _) | (with_reducible show svEq _ _ _ _) | (with_reducible show cellEq _ _ _ _) | (with_reducible show blkEq _ _ _)); conv => whnf))
  apply CutP.up (G := Unit) (fun _ => True) [1, 2] (fun _ => []) (fun _ => [(0, .row 48 (plC (s, b, m, l.take 20)))]) 1
  apply And.intro
  · repeat' (first | (intro h; first | exact Bool.noConfusion h | (guard_hyp h : true = true; clear h) | (guard_hyp h : false = false; clear h) | (simp only [decide_eq_true_eq, decide_eq_false_iff_not, beq_iff_eq, beq_eq_false_iff_ne, bne_iff_ne, bne_eq_false_iff_eq, Bool.not_eq_true', Bool.not_eq_false', ne_eq, Classical.not_not, Bool.not_true, Bool.not_false, beqL_iff, beqL_ff, List.cons.injEq, and_true] at h) | skip) | ((conv => whnf) <;> (first | exact True.intro | apply br_rec | apply And.intro | apply CutE.goPl | apply EntP.k0 | apply EntP.k1 | apply EntP.k2 | apply EntP.k3 | apply EntP.k4 | apply EntP.k5 | apply EntP.k6 | apply DrawP.go | (apply AnyP.mk; kernel_rfl) | (refine AggP.go 2 rfl (by kernel_rfl) ?_) | (refine AggP.go 1 rfl (by kernel_rfl) ?_) | (refine AggP.go 3 rfl (by kernel_rfl) ?_) | (refine AggP.go 4 rfl (by kernel_rfl) ?_) | (refine AggP.go 5 rfl (by kernel_rfl) ?_) | (refine AggP.go 8 rfl (by kernel_rfl) ?_) | (refine AggP.go 11 rfl (by kernel_rfl) ?_) | apply CallP.own0 | apply CallP.own1 | apply CallP.own2 | apply CallP.own3 | apply CallP.nb | apply CutE.go0 | apply CutE.go7 | apply CutE.go6 | apply CutE.go5 | apply CutE.go4 | apply CutE.go3 | apply CutE.go2 | apply CutE.go1 | apply RoP.id | apply wrapS | (with_reducible exact lenNil) | apply Eq.refl)) | ((first | (with_reducible show rvEq _ _ _ _) | (with_reducible show svEq _ _ _ _) | (with_reducible show cellEq _ _ _ _) | (with_reducible show blkEq _ _ _)); conv => whnf))
  rintro ⟨⟩ _
  generalize l.take 20 = l at *
  have hS : SmallP (s, b, m, l) := by show l.length ≤ 1000000; omega
  have hS2 : (s, b, m, l).2.2.2.length ≤ 100000 := by show l.length ≤ 100000; omega
  have hT := small_take hS
  have hG := (small_give (p := (s, b, m, l)) (x := x) (by show l.length ≤ 100; omega)).1
  have hH := small_held (p := (s, b, m, l)) (by cases plR (s, b, m, l) <;> simp)
  cases hr : plR (s, b, m, l) with
  | true =>
    have e3 := heldP_go hr
    repeat' (first | (intro h; first | exact Bool.noConfusion h | (guard_hyp h : true = true; clear h) | (guard_hyp h : false = false; clear h) | (simp only [decide_eq_true_eq, decide_eq_false_iff_not, beq_iff_eq, beq_eq_false_iff_ne, bne_iff_ne, bne_eq_false_iff_eq, Bool.not_eq_true', Bool.not_eq_false', ne_eq, Classical.not_not, Bool.not_true, Bool.not_false, beqL_iff, beqL_ff, List.cons.injEq, and_true] at h) | skip) | ((conv => whnf) <;> (first | exact True.intro | apply br_rec | apply And.intro | apply CutE.goPl2 | apply CutE.goPl1 | apply CutE.goPl | apply EntP.k0 | apply EntP.k1 | apply EntP.k2 | apply EntP.k3 | apply EntP.k4 | apply EntP.k5 | apply EntP.k6 | apply DrawP.go | (apply AnyP.mk; kernel_rfl) | (refine AggP.go 2 rfl (by kernel_rfl) ?_) | (refine AggP.go 1 rfl (by kernel_rfl) ?_) | (refine AggP.go 3 rfl (by kernel_rfl) ?_) | (refine AggP.go 4 rfl (by kernel_rfl) ?_) | (refine AggP.go 5 rfl (by kernel_rfl) ?_) | (refine AggP.go 8 rfl (by kernel_rfl) ?_) | (refine AggP.go 11 rfl (by kernel_rfl) ?_) | apply CallP.own0 | apply CallP.own1 | apply CallP.own2 | apply CallP.own3 | apply CallP.nb | apply CutE.go0 | apply CutE.go7 | apply CutE.go6 | apply CutE.go5 | apply CutE.go4 | apply CutE.go3 | apply CutE.go2 | apply CutE.go1 | apply RoP.id | apply wrapS | (with_reducible exact lenNil) | apply Eq.refl)) | ((first | (with_reducible show rvEq _ _ _ _) | (with_reducible show svEq _ _ _ _) | (with_reducible show cellEq _ _ _ _) | (with_reducible show blkEq _ _ _)); conv => whnf))
    all_goals first
      | exact hS
      | exact hS2
      | exact hT
      | exact hG
      | exact hH
      | exact hr
      | exact ⟨hr, hS⟩
      | exact ⟨hr, hS2⟩
      | (exfalso; exact Bool.noConfusion (hr.symm.trans (show plR (s, b, m, l) = false by assumption)))
      | (exfalso; exact absurd True.intro (by assumption))
      | contradiction
      | (exfalso; exact Bool.noConfusion ((plEq_self _).symm.trans (by assumption)))
      | (rw [e3]; exact (decide_eq_true rfl).symm)
      | (exfalso; rw [e3] at h; exact h rfl)
      | trace_state
  | false =>
    have e1 := takeP_no hr
    have e2 := giveP_no (x := x) hr
    have e3 := heldP_no hr
    repeat' (first | (intro h; first | exact Bool.noConfusion h | (guard_hyp h : true = true; clear h) | (guard_hyp h : false = false; clear h) | (simp only [decide_eq_true_eq, decide_eq_false_iff_not, beq_iff_eq, beq_eq_false_iff_ne, bne_iff_ne, bne_eq_false_iff_eq, Bool.not_eq_true', Bool.not_eq_false', ne_eq, Classical.not_not, Bool.not_true, Bool.not_false, beqL_iff, beqL_ff, List.cons.injEq, and_true] at h) | skip) | ((conv => whnf) <;> (first | exact True.intro | apply br_rec | apply And.intro | apply CutE.goPl2 | apply CutE.goPl1 | apply CutE.goPl | apply EntP.k0 | apply EntP.k1 | apply EntP.k2 | apply EntP.k3 | apply EntP.k4 | apply EntP.k5 | apply EntP.k6 | apply DrawP.go | (apply AnyP.mk; kernel_rfl) | (refine AggP.go 2 rfl (by kernel_rfl) ?_) | (refine AggP.go 1 rfl (by kernel_rfl) ?_) | (refine AggP.go 3 rfl (by kernel_rfl) ?_) | (refine AggP.go 4 rfl (by kernel_rfl) ?_) | (refine AggP.go 5 rfl (by kernel_rfl) ?_) | (refine AggP.go 8 rfl (by kernel_rfl) ?_) | (refine AggP.go 11 rfl (by kernel_rfl) ?_) | apply CallP.own0 | apply CallP.own1 | apply CallP.own2 | apply CallP.own3 | apply CallP.nb | apply CutE.go0 | apply CutE.go7 | apply CutE.go6 | apply CutE.go5 | apply CutE.go4 | apply CutE.go3 | apply CutE.go2 | apply CutE.go1 | apply RoP.id | apply wrapS | (with_reducible exact lenNil) | apply Eq.refl)) | ((first | (with_reducible show rvEq _ _ _ _) | (with_reducible show svEq _ _ _ _) | (with_reducible show cellEq _ _ _ _) | (with_reducible show blkEq _ _ _)); conv => whnf))
    all_goals try simp only [e1, e2, e3] at *
    all_goals first
      | exact hS
      | exact hS2
      | exact hT
      | exact hG
      | exact hH
      | omega
      | contradiction
      | rfl
      | exact (plEq_self _).symm
      | (exfalso; exact Bool.noConfusion (hr.symm.trans (show plR (s, b, m, l) = true by assumption)))
      | (exfalso; exact Bool.noConfusion ((plEq_self _).symm.trans (by assumption)))
      | trace_state
end Go.Eng
