/- A thread and its frames: calls. -/
import Derived.Test.YtgjdbpleoegejaaFrA
set_option linter.unusedVariables false
set_option linter.unusedSimpArgs false
namespace Go.Eng
open Go Go.Proofs

def F3 : List (Nat × FSpec) := (44, sIdxF) :: (45, sIdxN) :: F2
theorem F3_ok : GOK Try.prog (tab F3) := gok_cons idxF_ok (gok_cons idxN_ok F2_ok)
def sContF : FSpec := spec (List FrT) (fun l => [.c (frsS l), .c (.fn 33 [])]) (fun l => l.length ≤ 1000000) fun l => .b (l.any badFr)
def sContN : FSpec := spec (List Int) (fun l => [.c (intsS l), .c (.fn 35 [])]) (fun l => l.length ≤ 1000000) fun l => .b (l.any badN)
set_option maxHeartbeats 4000000 in
set_option maxRecDepth 100000 in
theorem contF_ok : Meets Try.prog 32 sContF := by
  refine meets_plain F3_ok rfl [] (fn := Try.f32) rfl rfl rfl (by decide) fun b hb => ?_
  have hi := idxW_any badFr b 0
  repeat' (first | (intro h; first | exact Bool.noConfusion h | (guard_hyp h : true = true; clear h) | (guard_hyp h : false = false; clear h) | (simp only [decide_eq_true_eq, decide_eq_false_iff_not, beq_iff_eq, beq_eq_false_iff_ne, bne_iff_ne, bne_eq_false_iff_eq, Bool.not_eq_true', Bool.not_eq_false', ne_eq, Classical.not_not, Bool.not_true, Bool.not_false, beqL_iff, beqL_ff, List.cons.injEq, and_true] at h) | skip) | ((conv => whnf) <;> (first | exact True.intro | apply br_rec | apply And.intro | apply EntP.k0 | apply EntP.k1 | apply EntP.k2 | apply EntP.k3 | apply EntP.k4 | apply EntP.k5 | apply EntP.k6 | apply DrawP.go | (apply AnyP.mk; kernel_rfl) | (refine AggP.go 2 rfl (by kernel_rfl) ?_) | (refine AggP.go 1 rfl (by kernel_rfl) ?_) | (refine AggP.go 3 rfl (by kernel_rfl) ?_) | (refine AggP.go 4 rfl (by kernel_rfl) ?_) | (refine AggP.go 5 rfl (by kernel_rfl) ?_) | (refine AggP.go 8 rfl (by kernel_rfl) ?_) | (refine AggP.go 11 rfl (by kernel_rfl) ?_) | apply CallP.own0 | apply CallP.own1 | apply CallP.own2 | apply CallP.own3 | apply CallP.nb | apply CutE.go0 | apply CutE.go7 | apply CutE.go6 | apply CutE.go5 | apply CutE.go4 | apply CutE.go3 | apply CutE.go2 | apply CutE.go1 | apply RoP.id | apply wrapS | (with_reducible exact lenNil) | apply Eq.refl)) | ((first | (with_reducible show rvEq _ _ _ _) | (with_reducible show svEq _ _ _ _) | (with_reducible show cellEq _ _ _ _) | (with_reducible show blkEq _ _ _)); conv => whnf))
  all_goals first
    | exact hb
    | exact hi.symm
    | trace_state
set_option maxHeartbeats 4000000 in
set_option maxRecDepth 100000 in
theorem contN_ok : Meets Try.prog 34 sContN := by
  refine meets_plain F3_ok rfl [] (fn := Try.f34) rfl rfl rfl (by decide) fun b hb => ?_
  have hi := idxW_any badN b 0
  repeat' (first | (intro h; first | exact Bool.noConfusion h | (guard_hyp h : true = true; clear h) | (guard_hyp h : false = false; clear h) | (simp only [decide_eq_true_eq, decide_eq_false_iff_not, beq_iff_eq, beq_eq_false_iff_ne, bne_iff_ne, bne_eq_false_iff_eq, Bool.not_eq_true', Bool.not_eq_false', ne_eq, Classical.not_not, Bool.not_true, Bool.not_false, beqL_iff, beqL_ff, List.cons.injEq, and_true] at h) | skip) | ((conv => whnf) <;> (first | exact True.intro | apply br_rec | apply And.intro | apply EntP.k0 | apply EntP.k1 | apply EntP.k2 | apply EntP.k3 | apply EntP.k4 | apply EntP.k5 | apply EntP.k6 | apply DrawP.go | (apply AnyP.mk; kernel_rfl) | (refine AggP.go 2 rfl (by kernel_rfl) ?_) | (refine AggP.go 1 rfl (by kernel_rfl) ?_) | (refine AggP.go 3 rfl (by kernel_rfl) ?_) | (refine AggP.go 4 rfl (by kernel_rfl) ?_) | (refine AggP.go 5 rfl (by kernel_rfl) ?_) | (refine AggP.go 8 rfl (by kernel_rfl) ?_) | (refine AggP.go 11 rfl (by kernel_rfl) ?_) | apply CallP.own0 | apply CallP.own1 | apply CallP.own2 | apply CallP.own3 | apply CallP.nb | apply CutE.go0 | apply CutE.go7 | apply CutE.go6 | apply CutE.go5 | apply CutE.go4 | apply CutE.go3 | apply CutE.go2 | apply CutE.go1 | apply RoP.id | apply wrapS | (with_reducible exact lenNil) | apply Eq.refl)) | ((first | (with_reducible show rvEq _ _ _ _) | (with_reducible show svEq _ _ _ _) | (with_reducible show cellEq _ _ _ _) | (with_reducible show blkEq _ _ _)); conv => whnf))
  all_goals first
    | exact hb
    | exact hi.symm
    | trace_state

def stF (st fa : Int) : Bool := decide ((st = 0 ∨ st = 1) ∧ fa = 0 ∨ st = 2 ∧ 1 ≤ fa ∧ fa ≤ 16)
def thR (t : Th) : Bool := placeF t.pc && decide (t.fs.length ≤ 6) && decide (t.lf.length ≤ 8) && !t.fs.any badFr && !t.lf.any badN && stF t.st t.fa
theorem thR_iff {t : Th} : thR t = true ↔ (placeF t.pc = true ∧ t.fs.length ≤ 6 ∧ t.lf.length ≤ 8 ∧ t.fs.any badFr = false ∧ t.lf.any badN = false ∧ stF t.st t.fa = true) := by
  simp only [thR, Bool.and_eq_true, decide_eq_true_eq, Bool.not_eq_true']
  exact ⟨fun ⟨⟨⟨⟨⟨a, b⟩, c⟩, d⟩, e⟩, f⟩ => ⟨a, b, c, d, e, f⟩, fun ⟨a, b, c, d, e, f⟩ => ⟨⟨⟨⟨⟨a, b⟩, c⟩, d⟩, e⟩, f⟩⟩
theorem thR_st {t : Th} (h1 : placeF t.pc = true) (h2 : t.fs.length ≤ 6) (h3 : t.lf.length ≤ 8) (h4 : t.fs.any badFr = false) (h5 : t.lf.any badN = false) : thR t = stF t.st t.fa := by
  rw [thR, h1, decide_eq_true h2, decide_eq_true h3, h4, h5]; rfl
theorem thR_no {t : Th} (h : ¬ (placeF t.pc = true ∧ t.fs.length ≤ 6 ∧ t.lf.length ≤ 8 ∧ t.fs.any badFr = false ∧ t.lf.any badN = false ∧ stF t.st t.fa = true)) : thR t = false := by
  cases e : thR t with
  | false => rfl
  | true => exact absurd (thR_iff.1 e) h
theorem stF_iff {st fa : Int} : stF st fa = true ↔ ((st = 0 ∨ st = 1) ∧ fa = 0 ∨ st = 2 ∧ 1 ≤ fa ∧ fa ≤ 16) := decide_eq_true_iff
def sThR : FSpec := spec Th (fun t => [.agg (thC t)]) (fun t => SmallT t) fun t => .b (thR t)
def F4 : List (Nat × FSpec) := (32, sContF) :: (34, sContN) :: F3
theorem F4_ok : GOK Try.prog (tab F4) := gok_cons contF_ok (gok_cons contN_ok F3_ok)
set_option maxHeartbeats 4000000 in
set_option maxRecDepth 100000 in
theorem thR_ok : Meets Try.prog 14 sThR := by
  refine meets_plain F4_ok rfl [] (fn := Try.f14) rfl rfl rfl (by decide) fun ⟨pc, r0, r1, r2, r3, r4, r5, r6, r7, fs, st, fa, lf⟩ hS => ?_
  repeat' (first | (intro h; first | exact Bool.noConfusion h | (guard_hyp h : true = true; clear h) | (guard_hyp h : false = false; clear h) | (simp only [decide_eq_true_eq, decide_eq_false_iff_not, beq_iff_eq, beq_eq_false_iff_ne, bne_iff_ne, bne_eq_false_iff_eq, Bool.not_eq_true', Bool.not_eq_false', ne_eq, Classical.not_not, Bool.not_true, Bool.not_false, beqL_iff, beqL_ff, List.cons.injEq, and_true] at h) | skip) | ((conv => whnf) <;> (first | exact True.intro | apply br_rec | apply And.intro | apply EntP.k0 | apply EntP.k1 | apply EntP.k2 | apply EntP.k3 | apply EntP.k4 | apply EntP.k5 | apply EntP.k6 | apply DrawP.go | (apply AnyP.mk; kernel_rfl) | (refine AggP.go 2 rfl (by kernel_rfl) ?_) | (refine AggP.go 1 rfl (by kernel_rfl) ?_) | (refine AggP.go 3 rfl (by kernel_rfl) ?_) | (refine AggP.go 4 rfl (by kernel_rfl) ?_) | (refine AggP.go 5 rfl (by kernel_rfl) ?_) | (refine AggP.go 8 rfl (by kernel_rfl) ?_) | (refine AggP.go 11 rfl (by kernel_rfl) ?_) | apply CallP.own0 | apply CallP.own1 | apply CallP.own2 | apply CallP.own3 | apply CallP.nb | apply CutE.go0 | apply CutE.go7 | apply CutE.go6 | apply CutE.go5 | apply CutE.go4 | apply CutE.go3 | apply CutE.go2 | apply CutE.go1 | apply RoP.id | apply wrapS | (with_reducible exact lenNil) | apply Eq.refl)) | ((first | (with_reducible show rvEq _ _ _ _) | (with_reducible show svEq _ _ _ _) | (with_reducible show cellEq _ _ _ _) | (with_reducible show blkEq _ _ _)); conv => whnf))
  all_goals first
    | exact hS.1
    | exact hS.2
    | (apply thR_no; rintro ⟨a, b, c, d, e, f⟩; simp only [*] at *; first | omega | contradiction)
    | (apply thR_no; rintro ⟨a, b, c, d, e, f⟩; have f := stF_iff.1 f; simp only at *; omega)
    | (rw [thR_st (by assumption) (by simp only; omega) (by simp only; omega) (by assumption) (by assumption)]
       show stF st fa = _
       rw [Bool.eq_iff_iff, stF_iff]
       simp only [beq_iff_eq, decide_eq_true_eq]
       omega)
    | trace_state
end Go.Eng
