/- BufferView, BufferDrains, walked. -/
import Derived.Test.YtpcimaemigchiaaBufM
set_option linter.unusedVariables false
set_option linter.unusedSimpArgs false
namespace Go.Eng
open Go Go.Proofs

def B8 : List (Nat × FSpec) := B7
theorem B8_ok : GOK Try.prog (tab B8) := B7_ok
def sView : FSpec := sTrueB (List Int × List Int × List Put × Int) fun (ws, ts, b, a) => [.c (intsS ws), .c (intsS ts), .c (putsS b), .i a]

theorem foldF_ok {ws ts : List Int} {b : List Put} (h : (foldF ws ts b).2.2 = 0) : memR ws ts = true ∧ (foldF ws ts b).1.2 = ts := by
  by_cases hm : memR ws ts = true
  · rw [foldF_good hm] at h ⊢
    exact ⟨hm, (fold_tags _ _ _ h).1⟩
  · rw [foldF_bad (by simpa using hm)] at h
    cases h
theorem foldF_no {ws ts : List Int} {b : List Put} (h : ¬ (foldF ws ts b).2.2 = 0) : (foldF ws ts b).1 = ([], []) := by
  by_cases hm : memR ws ts = true
  · rw [foldF_good hm] at h ⊢
    exact foldG_bad _ _ _ h
  · rw [foldF_bad (by simpa using hm)]
theorem viewF {ws ts : List Int} {b : List Put} {a : Int} (h : (foldF ws ts b).2.2 = 0) : ((newestF b a).2 = true → loadF (foldF ws ts b).1.1 (foldF ws ts b).1.2 a = ((newestF b a).1, 0) ∧ (loadF ws ts a).2 = 0) ∧
    ((newestF b a).2 = false → (newestF b a).1 = 0 ∧ loadF (foldF ws ts b).1.1 (foldF ws ts b).1.2 a = loadF ws ts a) := by
  obtain ⟨hm, ht⟩ := foldF_ok h
  rw [ht]
  rw [foldF_good hm] at h ⊢
  have := view (a := a) b ws 0 hm h
  rw [loadF_use]
  exact this

set_option maxHeartbeats 8000000 in
set_option maxRecDepth 100000 in
theorem view_ok : Meets Try.prog 11 sView := by
  refine meets_plain B7_ok rfl [2] (fn := Try.f11) rfl rfl rfl (by decide) fun ⟨ws0, ts0, b0, a⟩ _ => ?_
  have hb : (b0.take 20).length ≤ 20 := List.length_take_le _ _
  repeat' (first | (intro h; first | exact Bool.noConfusion h | (guard_hyp h : true = true; clear h) | (guard_hyp h : false = false; clear h) | (simp only [decide_eq_true_eq, decide_eq_false_iff_not, beq_iff_eq, beq_eq_false_iff_ne, bne_iff_ne, bne_eq_false_iff_eq, Bool.not_eq_true', Bool.not_eq_false', ne_eq, Classical.not_not, Bool.not_true, Bool.not_false, beqL_iff, beqL_ff, List.cons.injEq, and_true] at h) | skip) | ((conv => whnf) <;> (first | exact True.intro | apply br_rec | apply And.intro | apply EntP.k0 | apply EntP.k1 | apply EntP.k2 | apply EntP.k3 | apply EntP.k4 | apply EntP.k5 | apply EntP.k6 | apply DrawP.go | (apply AnyP.mk; kernel_rfl) | (refine AggP.go 2 rfl (by kernel_rfl) ?_) | (refine AggP.go 1 rfl (by kernel_rfl) ?_) | (refine AggP.go 3 rfl (by kernel_rfl) ?_) | (refine AggP.go 4 rfl (by kernel_rfl) ?_) | (refine AggP.go 5 rfl (by kernel_rfl) ?_) | (refine AggP.go 8 rfl (by kernel_rfl) ?_) | (refine AggP.go 11 rfl (by kernel_rfl) ?_) | apply CallP.own0 | apply CallP.own1 | apply CallP.own2 | apply CallP.own3 | apply CallP.nb | apply CutE.go0 | apply CutE.go7 | apply CutE.go6 | apply CutE.go5 | apply CutE.go4 | apply CutE.go3 | apply CutE.go2 | apply CutE.go1 | apply RoP.id | apply wrapS | (with_reducible exact lenNil) | apply Eq.refl)) | ((first | (with_reducible show rvEq _ _ _ _) | (with_reducible show svEq _ _ _ _) | (with_reducible show cellEq _ _ _ _) | (with_reducible show blkEq _ _ _)); conv => whnf))
  apply CutP.up (G := Unit) (fun _ => True) [2, 3, 9] (fun _ => [(2, .s (.c (putsS (b0.take 20)))), (9, .s (.c (.ptr 0 0)))]) (fun _ => [(0, .row 40 (memC (ws0.take 170) (ts0.take 170)))]) 1
  apply And.intro
  · repeat' (first | (intro h; first | exact Bool.noConfusion h | (guard_hyp h : true = true; clear h) | (guard_hyp h : false = false; clear h) | (simp only [decide_eq_true_eq, decide_eq_false_iff_not, beq_iff_eq, beq_eq_false_iff_ne, bne_iff_ne, bne_eq_false_iff_eq, Bool.not_eq_true', Bool.not_eq_false', ne_eq, Classical.not_not, Bool.not_true, Bool.not_false, beqL_iff, beqL_ff, List.cons.injEq, and_true] at h) | skip) | ((conv => whnf) <;> (first | exact True.intro | apply br_rec | apply And.intro | apply EntP.k0 | apply EntP.k1 | apply EntP.k2 | apply EntP.k3 | apply EntP.k4 | apply EntP.k5 | apply EntP.k6 | apply DrawP.go | (apply AnyP.mk; kernel_rfl) | (refine AggP.go 2 rfl (by kernel_rfl) ?_) | (refine AggP.go 1 rfl (by kernel_rfl) ?_) | (refine AggP.go 3 rfl (by kernel_rfl) ?_) | (refine AggP.go 4 rfl (by kernel_rfl) ?_) | (refine AggP.go 5 rfl (by kernel_rfl) ?_) | (refine AggP.go 8 rfl (by kernel_rfl) ?_) | (refine AggP.go 11 rfl (by kernel_rfl) ?_) | apply CallP.own0 | apply CallP.own1 | apply CallP.own2 | apply CallP.own3 | apply CallP.nb | apply CutE.go0 | apply CutE.go7 | apply CutE.go6 | apply CutE.go5 | apply CutE.go4 | apply CutE.go3 | apply CutE.go2 | apply CutE.go1 | apply RoP.id | apply wrapS | (with_reducible exact lenNil) | apply Eq.refl)) | ((first | (with_reducible show rvEq _ _ _ _) | (with_reducible show svEq _ _ _ _) | (with_reducible show cellEq _ _ _ _) | (with_reducible show blkEq _ _ _)); conv => whnf))
    all_goals try simp only [Int.toNat_natCast, Int.toNat_zero, ge_iff_le, gt_iff_lt, Int.ofNat_le, Int.ofNat_lt, Int.ofNat_inj] at *
    all_goals first
      | omega
      | (dsimp only; omega)
      | assumption
      | exact Up.zero _
      | (show ((8 : Nat) : Int) * _ ≤ _; omega)
      | (show _ * (8 : Nat) ≤ _; omega)
      | (show _ * (16 : Nat) ≤ _; omega)
      | (show _ * (24 : Nat) ≤ _; omega)
      | exact take_lo (m := 20)
      | exact take_hi (m := 20)
      | exact take_len (m := 20)
      | (apply take_cell (m := 20); assumption)
      | trace_state
  rintro ⟨⟩ _
  have hw : (ws0.take 170).length ≤ 170 := List.length_take_le _ _
  have ht : (ts0.take 170).length ≤ 170 := List.length_take_le _ _
  generalize b0.take 20 = b at *
  generalize ws0.take 170 = ws at *
  generalize ts0.take 170 = ts at *
  repeat' (first | (intro h; first | exact Bool.noConfusion h | (guard_hyp h : true = true; clear h) | (guard_hyp h : false = false; clear h) | (simp only [decide_eq_true_eq, decide_eq_false_iff_not, beq_iff_eq, beq_eq_false_iff_ne, bne_iff_ne, bne_eq_false_iff_eq, Bool.not_eq_true', Bool.not_eq_false', ne_eq, Classical.not_not, Bool.not_true, Bool.not_false, beqL_iff, beqL_ff, List.cons.injEq, and_true] at h) | skip) | ((conv => whnf) <;> (first | exact True.intro | apply br_rec | apply And.intro | apply EntP.k0 | apply EntP.k1 | apply EntP.k2 | apply EntP.k3 | apply EntP.k4 | apply EntP.k5 | apply EntP.k6 | apply DrawP.go | (apply AnyP.mk; kernel_rfl) | (refine AggP.go 2 rfl (by kernel_rfl) ?_) | (refine AggP.go 1 rfl (by kernel_rfl) ?_) | (refine AggP.go 3 rfl (by kernel_rfl) ?_) | (refine AggP.go 4 rfl (by kernel_rfl) ?_) | (refine AggP.go 5 rfl (by kernel_rfl) ?_) | (refine AggP.go 8 rfl (by kernel_rfl) ?_) | (refine AggP.go 11 rfl (by kernel_rfl) ?_) | apply CallP.own0 | apply CallP.own1 | apply CallP.own2 | apply CallP.own3 | apply CallP.nb | apply CutE.go0 | apply CutE.go7 | apply CutE.go6 | apply CutE.go5 | apply CutE.go4 | apply CutE.go3 | apply CutE.go2 | apply CutE.go1 | apply RoP.id | apply wrapS | (with_reducible exact lenNil) | apply Eq.refl)) | ((first | (with_reducible show rvEq _ _ _ _) | (with_reducible show svEq _ _ _ _) | (with_reducible show cellEq _ _ _ _) | (with_reducible show blkEq _ _ _)); conv => whnf))
  all_goals have hfl := foldF_len ws ts b
  all_goals try simp only [Int.toNat_natCast, Int.toNat_zero] at *
  all_goals first
    | omega
    | (show b.length ≤ 1000000; omega)
    | (exact absurd True.intro (by assumption))
    | (rw [foldF_no (by assumption)]; rfl)
    | (have hv := viewF (a := a) (by assumption : (foldF ws ts b).2.2 = 0)
       by_cases hn : (newestF b a).2 = true
       · have h1 := hv.1 hn
         simp_all
         done
       · have h1 := hv.2 (by simpa using hn)
         simp_all
         done)
    | trace_state
end Go.Eng
