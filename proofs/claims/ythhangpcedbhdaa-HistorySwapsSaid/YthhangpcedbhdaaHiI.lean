/- The reference's likeness, walked, and that it is the same. -/
import Derived.Test.YthhangpcedbhdaaHiH
set_option linter.unusedVariables false
set_option linter.unusedSimpArgs false
namespace Go.Eng
open Go Go.Proofs

def SameP (a b : Sp) : Prop := a.th = b.th ∧ a.n = b.n ∧ a.c0 = b.c0 ∧ a.c1 = b.c1 ∧ a.c2 = b.c2 ∧ a.c3 = b.c3 ∧ a.why = b.why ∧ a.rv = b.rv ∧ (a.to < 0 ↔ b.to < 0)
instance (a b : Sp) : Decidable (SameP a b) := by unfold SameP; infer_instance
def sameF (a b : Sp) : Bool := decide (SameP a b)
def sSame : FSpec := spec (Sp × Sp) (fun (a, b) => [.agg (encSp a), .agg (encSp b)]) (fun _ => True) fun (a, b) => .b (sameF a b)
theorem same_yes {a b : Sp} (h : SameP a b) : sameF a b = true := decide_eq_true h
theorem same_no {a b : Sp} (h : ¬ SameP a b) : sameF a b = false := decide_eq_false h
set_option maxHeartbeats 4000000 in
set_option maxRecDepth 100000 in
theorem same_ok : Meets Try.prog 56 sSame := by
  refine meets_plain (gok_nil _) rfl [] (fn := Try.f56) rfl rfl rfl (by decide) fun ⟨⟨a0, a1, a2, a3, a4, a5, a6, a7, a8, a9⟩, ⟨b0, b1, b2, b3, b4, b5, b6, b7, b8, b9⟩⟩ _ => ?_
  have key : ∀ q : SameP ⟨a0, a1, a2, a3, a4, a5, a6, a7, a8, a9⟩ ⟨b0, b1, b2, b3, b4, b5, b6, b7, b8, b9⟩, a0 = b0 ∧ a1 = b1 ∧ (a2 = b2 ∧ a3 = b3 ∧ a4 = b4 ∧ a5 = b5) ∧ (a6 = b6 ∧ a7 = b7) ∧ (a9 < 0 ↔ b9 < 0) := fun ⟨q1, q2, q3, q4, q5, q6, q7, q8, q9⟩ => ⟨q1, q2, ⟨q3, q4, q5, q6⟩, ⟨q7, q8⟩, q9⟩
  repeat' (first | (intro h; first | exact Bool.noConfusion h | (guard_hyp h : true = true; clear h) | (guard_hyp h : false = false; clear h) | (simp only [decide_eq_true_eq, decide_eq_false_iff_not, beq_iff_eq, beq_eq_false_iff_ne, bne_iff_ne, bne_eq_false_iff_eq, Bool.not_eq_true', Bool.not_eq_false', ne_eq, Classical.not_not, Bool.not_true, Bool.not_false, beqL_iff, beqL_ff, List.cons.injEq, and_true] at h) | skip) | ((conv => whnf) <;> (first | exact True.intro | apply br_rec | apply And.intro | apply EntP.k0 | apply EntP.k1 | apply EntP.k2 | apply EntP.k3 | apply EntP.k4 | apply EntP.k5 | apply EntP.k6 | apply DrawP.go | (apply AnyP.mk; kernel_rfl) | (refine AggP.go 2 rfl (by kernel_rfl) ?_) | (refine AggP.go 1 rfl (by kernel_rfl) ?_) | (refine AggP.go 3 rfl (by kernel_rfl) ?_) | (refine AggP.go 4 rfl (by kernel_rfl) ?_) | (refine AggP.go 5 rfl (by kernel_rfl) ?_) | (refine AggP.go 8 rfl (by kernel_rfl) ?_) | (refine AggP.go 11 rfl (by kernel_rfl) ?_) | (refine AggP.go 10 rfl (by kernel_rfl) ?_) | (refine PairP.go (by kernel_rfl) ?_) | apply CallP.own0 | apply CallP.own1 | apply CallP.own2 | apply CallP.own3 | apply CallP.nb | apply CutE.go0 | apply CutE.go7 | apply CutE.go6 | apply CutE.go5 | apply CutE.go4 | apply CutE.go3 | apply CutE.go2 | apply CutE.go1 | apply RoP.id | apply wrapS | (with_reducible exact lenNil) | apply Eq.refl)) | ((first | (with_reducible show rvEq _ _ _ _) | (with_reducible show svEq _ _ _ _) | (with_reducible show cellEq _ _ _ _) | (with_reducible show blkEq _ _ _)); conv => whnf))
  all_goals first
    | exact same_no (fun q => h (key q).1)
    | exact same_no (fun q => h (key q).2.1)
    | exact same_no (fun q => h (key q).2.2.1)
    | exact same_no (fun q => h (key q).2.2.2.1)
    | (rename_i h0 h1 h2
       show sameF _ _ = (decide (a9 < 0) == decide (b9 < 0))
       by_cases e : (a9 < 0 ↔ b9 < 0)
       · rw [same_yes (show SameP _ _ from ⟨h0, h1, h2.1, h2.2.1, h2.2.2.1, h2.2.2.2, h.1, h.2, e⟩)]
         by_cases p1 : a9 < 0 <;> by_cases p2 : b9 < 0 <;> simp [p1, p2] at e ⊢
       · rw [same_no (fun q => e (key q).2.2.2.2)]
         by_cases p1 : a9 < 0 <;> by_cases p2 : b9 < 0 <;> simp [p1, p2] at e ⊢)
    | trace_state
def findG (s : Sp) : List Sp → Nat → Int
  | [], _ => -1
  | x :: r, i => if sameF x s = true then (i : Int) else findG s r (i + 1)
def findF (y : List Sp) (s : Sp) : Int := findG s y 0
theorem findG_step {y : List Sp} {s : Sp} {k : Nat} (hk : k < y.length) : findG s (y.drop k) k = if sameF (y.getD k default) s = true then (k : Int) else findG s (y.drop (k + 1)) (k + 1) := by
  rw [drop_getD (d := default) hk, findG]
def sFind : FSpec := spec (List Sp × Sp) (fun (y, s) => [.c (spsS y), .agg (encSp s)]) (fun (y, _) => y.length ≤ 1000) fun (y, s) => .i (findF y s)
def H7 : List (Nat × FSpec) := [(56, sSame)]
theorem H7_ok : GOK Try.prog (tab H7) := gok_cons same_ok (gok_nil _)
set_option maxHeartbeats 4000000 in
set_option maxRecDepth 100000 in
theorem find_ok : Meets Try.prog 51 sFind := by
  refine meets_plain H7_ok rfl [] (fn := Try.f51) rfl rfl rfl (by decide) fun ⟨y, ⟨a0, a1, a2, a3, a4, a5, a6, a7, a8, a9⟩⟩ hl => ?_
  have hl : y.length ≤ 1000 := hl
  repeat' (first | (intro h; first | exact Bool.noConfusion h | (guard_hyp h : true = true; clear h) | (guard_hyp h : false = false; clear h) | (simp only [decide_eq_true_eq, decide_eq_false_iff_not, beq_iff_eq, beq_eq_false_iff_ne, bne_iff_ne, bne_eq_false_iff_eq, Bool.not_eq_true', Bool.not_eq_false', ne_eq, Classical.not_not, Bool.not_true, Bool.not_false, beqL_iff, beqL_ff, List.cons.injEq, and_true] at h) | skip) | ((conv => whnf) <;> (first | exact True.intro | apply br_rec | apply And.intro | apply EntP.k0 | apply EntP.k1 | apply EntP.k2 | apply EntP.k3 | apply EntP.k4 | apply EntP.k5 | apply EntP.k6 | apply DrawP.go | (apply AnyP.mk; kernel_rfl) | (refine AggP.go 2 rfl (by kernel_rfl) ?_) | (refine AggP.go 1 rfl (by kernel_rfl) ?_) | (refine AggP.go 3 rfl (by kernel_rfl) ?_) | (refine AggP.go 4 rfl (by kernel_rfl) ?_) | (refine AggP.go 5 rfl (by kernel_rfl) ?_) | (refine AggP.go 8 rfl (by kernel_rfl) ?_) | (refine AggP.go 11 rfl (by kernel_rfl) ?_) | (refine AggP.go 10 rfl (by kernel_rfl) ?_) | (refine PairP.go (by kernel_rfl) ?_) | apply CallP.own0 | apply CallP.own1 | apply CallP.own2 | apply CallP.own3 | apply CallP.nb | apply CutE.go0 | apply CutE.go7 | apply CutE.go6 | apply CutE.go5 | apply CutE.go4 | apply CutE.go3 | apply CutE.go2 | apply CutE.go1 | apply RoP.id | apply wrapS | (with_reducible exact lenNil) | apply Eq.refl)) | ((first | (with_reducible show rvEq _ _ _ _) | (with_reducible show svEq _ _ _ _) | (with_reducible show cellEq _ _ _ _) | (with_reducible show blkEq _ _ _)); conv => whnf))
  apply LoopP.up (G := Nat) (fun k => k ≤ y.length ∧ findF y ⟨a0, a1, a2, a3, a4, a5, a6, a7, a8, a9⟩ = findG ⟨a0, a1, a2, a3, a4, a5, a6, a7, a8, a9⟩ (y.drop k) k) [3, 7, 8, 9] (fun k => [(9, .i k)]) (fun _ => []) 1 (fun k => y.length - k)
  apply And.intro
  · refine CutE.at 0 ?_
    repeat' (first | (intro h; first | exact Bool.noConfusion h | (guard_hyp h : true = true; clear h) | (guard_hyp h : false = false; clear h) | (simp only [decide_eq_true_eq, decide_eq_false_iff_not, beq_iff_eq, beq_eq_false_iff_ne, bne_iff_ne, bne_eq_false_iff_eq, Bool.not_eq_true', Bool.not_eq_false', ne_eq, Classical.not_not, Bool.not_true, Bool.not_false, beqL_iff, beqL_ff, List.cons.injEq, and_true] at h) | skip) | ((conv => whnf) <;> (first | exact True.intro | apply br_rec | apply And.intro | apply EntP.k0 | apply EntP.k1 | apply EntP.k2 | apply EntP.k3 | apply EntP.k4 | apply EntP.k5 | apply EntP.k6 | apply DrawP.go | (apply AnyP.mk; kernel_rfl) | (refine AggP.go 2 rfl (by kernel_rfl) ?_) | (refine AggP.go 1 rfl (by kernel_rfl) ?_) | (refine AggP.go 3 rfl (by kernel_rfl) ?_) | (refine AggP.go 4 rfl (by kernel_rfl) ?_) | (refine AggP.go 5 rfl (by kernel_rfl) ?_) | (refine AggP.go 8 rfl (by kernel_rfl) ?_) | (refine AggP.go 11 rfl (by kernel_rfl) ?_) | (refine AggP.go 10 rfl (by kernel_rfl) ?_) | (refine PairP.go (by kernel_rfl) ?_) | apply CallP.own0 | apply CallP.own1 | apply CallP.own2 | apply CallP.own3 | apply CallP.nb | apply CutE.go0 | apply CutE.go7 | apply CutE.go6 | apply CutE.go5 | apply CutE.go4 | apply CutE.go3 | apply CutE.go2 | apply CutE.go1 | apply RoP.id | apply wrapS | (with_reducible exact lenNil) | apply Eq.refl)) | ((first | (with_reducible show rvEq _ _ _ _) | (with_reducible show svEq _ _ _ _) | (with_reducible show cellEq _ _ _ _) | (with_reducible show blkEq _ _ _)); conv => whnf))
    all_goals first | exact Nat.zero_le _ | rfl | trace_state
  rintro k ⟨hk, hI⟩
  have hk : k ≤ y.length := hk
  have hI : findF y ⟨a0, a1, a2, a3, a4, a5, a6, a7, a8, a9⟩ = findG ⟨a0, a1, a2, a3, a4, a5, a6, a7, a8, a9⟩ (y.drop k) k := hI
  by_cases hky : k < y.length
  · have hs := findG_step (s := ⟨a0, a1, a2, a3, a4, a5, a6, a7, a8, a9⟩) hky
    repeat' (first | (intro h; first | exact Bool.noConfusion h | (guard_hyp h : true = true; clear h) | (guard_hyp h : false = false; clear h) | (simp only [decide_eq_true_eq, decide_eq_false_iff_not, beq_iff_eq, beq_eq_false_iff_ne, bne_iff_ne, bne_eq_false_iff_eq, Bool.not_eq_true', Bool.not_eq_false', ne_eq, Classical.not_not, Bool.not_true, Bool.not_false, beqL_iff, beqL_ff, List.cons.injEq, and_true] at h) | skip) | ((conv => whnf) <;> (first | exact True.intro | apply br_rec | apply And.intro | refine CutE.at (A := Nat) (k + 1) ?_ | refine CutE.at (A := Sp × Sp) (y.getD k default, ⟨a0, a1, a2, a3, a4, a5, a6, a7, a8, a9⟩) ?_ | apply EntP.k0 | apply EntP.k1 | apply EntP.k2 | apply EntP.k3 | apply EntP.k4 | apply EntP.k5 | apply EntP.k6 | apply DrawP.go | (apply AnyP.mk; kernel_rfl) | (refine AggP.go 2 rfl (by kernel_rfl) ?_) | (refine AggP.go 1 rfl (by kernel_rfl) ?_) | (refine AggP.go 3 rfl (by kernel_rfl) ?_) | (refine AggP.go 4 rfl (by kernel_rfl) ?_) | (refine AggP.go 5 rfl (by kernel_rfl) ?_) | (refine AggP.go 8 rfl (by kernel_rfl) ?_) | (refine AggP.go 11 rfl (by kernel_rfl) ?_) | (refine AggP.go 10 rfl (by kernel_rfl) ?_) | (refine PairP.go (by kernel_rfl) ?_) | apply CallP.own0 | apply CallP.own1 | apply CallP.own2 | apply CallP.own3 | apply CallP.nb | apply CutE.go0 | apply CutE.go7 | apply CutE.go6 | apply CutE.go5 | apply CutE.go4 | apply CutE.go3 | apply CutE.go2 | apply CutE.go1 | apply RoP.id | apply wrapS | (with_reducible exact lenNil) | apply Eq.refl)) | ((first | (with_reducible show rvEq _ _ _ _) | (with_reducible show svEq _ _ _ _) | (with_reducible show cellEq _ _ _ _) | (with_reducible show blkEq _ _ _)); conv => whnf))
    all_goals try simp only [Int.toNat_natCast] at *
    all_goals first
      | omega
      | rfl
      | (show y.length - (k + 1) < y.length - k; omega)
      | (show k + 1 ≤ y.length; omega)
      | (rw [hI, hs, if_pos h])
      | (rw [hI, hs, h]; rfl)
      | trace_state
  · repeat' (first | (intro h; first | exact Bool.noConfusion h | (guard_hyp h : true = true; clear h) | (guard_hyp h : false = false; clear h) | (simp only [decide_eq_true_eq, decide_eq_false_iff_not, beq_iff_eq, beq_eq_false_iff_ne, bne_iff_ne, bne_eq_false_iff_eq, Bool.not_eq_true', Bool.not_eq_false', ne_eq, Classical.not_not, Bool.not_true, Bool.not_false, beqL_iff, beqL_ff, List.cons.injEq, and_true] at h) | skip) | ((conv => whnf) <;> (first | exact True.intro | apply br_rec | apply And.intro | refine CutE.at (A := Sp × Sp) (y.getD k default, ⟨a0, a1, a2, a3, a4, a5, a6, a7, a8, a9⟩) ?_ | apply EntP.k0 | apply EntP.k1 | apply EntP.k2 | apply EntP.k3 | apply EntP.k4 | apply EntP.k5 | apply EntP.k6 | apply DrawP.go | (apply AnyP.mk; kernel_rfl) | (refine AggP.go 2 rfl (by kernel_rfl) ?_) | (refine AggP.go 1 rfl (by kernel_rfl) ?_) | (refine AggP.go 3 rfl (by kernel_rfl) ?_) | (refine AggP.go 4 rfl (by kernel_rfl) ?_) | (refine AggP.go 5 rfl (by kernel_rfl) ?_) | (refine AggP.go 8 rfl (by kernel_rfl) ?_) | (refine AggP.go 11 rfl (by kernel_rfl) ?_) | (refine AggP.go 10 rfl (by kernel_rfl) ?_) | (refine PairP.go (by kernel_rfl) ?_) | apply CallP.own0 | apply CallP.own1 | apply CallP.own2 | apply CallP.own3 | apply CallP.nb | apply CutE.go0 | apply CutE.go7 | apply CutE.go6 | apply CutE.go5 | apply CutE.go4 | apply CutE.go3 | apply CutE.go2 | apply CutE.go1 | apply RoP.id | apply wrapS | (with_reducible exact lenNil) | apply Eq.refl)) | ((first | (with_reducible show rvEq _ _ _ _) | (with_reducible show svEq _ _ _ _) | (with_reducible show cellEq _ _ _ _) | (with_reducible show blkEq _ _ _)); conv => whnf))
    all_goals first
      | (exfalso; omega)
      | (rw [hI, List.drop_eq_nil_of_le (by omega)]; rfl)
      | trace_state
set_option maxHeartbeats 4000000 in
set_option maxRecDepth 100000 in
theorem rbef_ok : Meets Try.prog 52 sBef := by
  refine meets_plain (gok_nil _) rfl [] (fn := Try.f52) rfl rfl rfl (by decide) fun ⟨⟨a0, a1, a2, a3, a4, a5, a6, a7, a8, a9⟩, ⟨b0, b1, b2, b3, b4, b5, b6, b7, b8, b9⟩⟩ _ => ?_
  repeat' (first | (intro h; first | exact Bool.noConfusion h | (guard_hyp h : true = true; clear h) | (guard_hyp h : false = false; clear h) | (simp only [decide_eq_true_eq, decide_eq_false_iff_not, beq_iff_eq, beq_eq_false_iff_ne, bne_iff_ne, bne_eq_false_iff_eq, Bool.not_eq_true', Bool.not_eq_false', ne_eq, Classical.not_not, Bool.not_true, Bool.not_false, beqL_iff, beqL_ff, List.cons.injEq, and_true] at h) | skip) | ((conv => whnf) <;> (first | exact True.intro | apply br_rec | apply And.intro | apply EntP.k0 | apply EntP.k1 | apply EntP.k2 | apply EntP.k3 | apply EntP.k4 | apply EntP.k5 | apply EntP.k6 | apply DrawP.go | (apply AnyP.mk; kernel_rfl) | (refine AggP.go 2 rfl (by kernel_rfl) ?_) | (refine AggP.go 1 rfl (by kernel_rfl) ?_) | (refine AggP.go 3 rfl (by kernel_rfl) ?_) | (refine AggP.go 4 rfl (by kernel_rfl) ?_) | (refine AggP.go 5 rfl (by kernel_rfl) ?_) | (refine AggP.go 8 rfl (by kernel_rfl) ?_) | (refine AggP.go 11 rfl (by kernel_rfl) ?_) | (refine AggP.go 10 rfl (by kernel_rfl) ?_) | (refine PairP.go (by kernel_rfl) ?_) | apply CallP.own0 | apply CallP.own1 | apply CallP.own2 | apply CallP.own3 | apply CallP.nb | apply CutE.go0 | apply CutE.go7 | apply CutE.go6 | apply CutE.go5 | apply CutE.go4 | apply CutE.go3 | apply CutE.go2 | apply CutE.go1 | apply RoP.id | apply wrapS | (with_reducible exact lenNil) | apply Eq.refl)) | ((first | (with_reducible show rvEq _ _ _ _) | (with_reducible show svEq _ _ _ _) | (with_reducible show cellEq _ _ _ _) | (with_reducible show blkEq _ _ _)); conv => whnf))
  all_goals first
    | (apply decide_eq_false; intro hh; have := hh.1; simp only at this; omega)
    | (show decide (0 ≤ a9 ∧ a9 < b8) = decide (a9 < b8); congr 1; apply propext; omega)
    | trace_state
end Go.Eng
