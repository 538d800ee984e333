/- The buffer: Push, Pop. -/
import Derived.Test.YtpcimaemigchiaaBufA
set_option linter.unusedVariables false
set_option linter.unusedSimpArgs false
namespace Go.Eng
open Go Go.Proofs

def pushF (b : List Put) (depth : Int) (p : Put) : List Put × Int :=
  if depth < 0 ∨ depth > 8 ∨ b.length > depth then ([], 1) else if b.length = depth then ([], 7) else (b ++ [p], 0)
def sPush : FSpec := spec (List Put × Int × Put) (fun (b, d, p) => [.c (putsS b), .i d, .agg (encP p)]) (fun (b, _, _) => b.length ≤ 1000000) (fun (b, d, p) => .tup [.c (putsS (pushF b d p).1), .c (.i (pushF b d p).2)])

theorem push_cases (b : List Put) (d : Int) (p : Put) : ((d < 0 ∨ d > 8 ∨ b.length > d) ∧ pushF b d p = ([], 1)) ∨ ((0 ≤ d ∧ d ≤ 8 ∧ b.length = d) ∧ pushF b d p = ([], 7)) ∨ ((0 ≤ d ∧ d ≤ 8 ∧ b.length < d) ∧ pushF b d p = (b ++ [p], 0)) := by
  by_cases h1 : d < 0 ∨ d > 8 ∨ b.length > d
  · exact .inl ⟨h1, if_pos h1⟩
  · by_cases h2 : (b.length : Int) = d
    · exact .inr (.inl ⟨by omega, by rw [pushF, if_neg h1, if_pos h2]⟩)
    · exact .inr (.inr ⟨by omega, by rw [pushF, if_neg h1, if_neg h2]⟩)
set_option maxHeartbeats 2000000 in
set_option maxRecDepth 100000 in
theorem push_ok : Meets Try.prog 18 sPush := by
  refine meets_plain (gok_nil _) rfl [] (fn := Try.f18) rfl rfl rfl (by decide) fun ⟨b, d, p⟩ hl => ?_
  repeat' (first | (intro h; first | exact Bool.noConfusion h | (guard_hyp h : true = true; clear h) | (guard_hyp h : false = false; clear h) | (simp only [decide_eq_true_eq, decide_eq_false_iff_not, beq_iff_eq, beq_eq_false_iff_ne, bne_iff_ne, bne_eq_false_iff_eq, Bool.not_eq_true', Bool.not_eq_false', ne_eq, Classical.not_not, Bool.not_true, Bool.not_false, beqL_iff, beqL_ff, List.cons.injEq, and_true] at h) | skip) | ((conv => whnf) <;> (first | exact True.intro | apply br_rec | apply And.intro | apply EntP.k0 | apply EntP.k1 | apply EntP.k2 | apply EntP.k3 | apply EntP.k4 | apply EntP.k5 | apply EntP.k6 | apply DrawP.go | (apply AnyP.mk; kernel_rfl) | (refine AggP.go 2 rfl (by kernel_rfl) ?_) | (refine AggP.go 1 rfl (by kernel_rfl) ?_) | (refine AggP.go 3 rfl (by kernel_rfl) ?_) | (refine AggP.go 4 rfl (by kernel_rfl) ?_) | (refine AggP.go 5 rfl (by kernel_rfl) ?_) | (refine AggP.go 8 rfl (by kernel_rfl) ?_) | (refine AggP.go 11 rfl (by kernel_rfl) ?_) | apply CallP.own0 | apply CallP.own1 | apply CallP.own2 | apply CallP.own3 | apply CallP.nb | apply CutE.go0 | apply CutE.go7 | apply CutE.go6 | apply CutE.go5 | apply CutE.go4 | apply CutE.go3 | apply CutE.go2 | apply CutE.go1 | apply RoP.id | apply wrapS | (with_reducible exact lenNil) | apply Eq.refl)) | ((first | (with_reducible show rvEq _ _ _ _) | (with_reducible show svEq _ _ _ _) | (with_reducible show cellEq _ _ _ _) | (with_reducible show blkEq _ _ _)); conv => whnf))
  all_goals
    rcases push_cases b d p with ⟨hc, e⟩ | ⟨hc, e⟩ | ⟨hc, e⟩
    all_goals first
      | omega
      | (rw [e]; done)
      | (show ((b.length - 0 : Int).toNat + 1) * 16 ≤ _; omega)
      | (simp only [e] at *; simp at *; done)
      | (rw [e]; simp; done)
      | (rename_i i hi t
         rw [e] at hi ⊢
         show slG encP (b ++ [p]) i t = catG (b.length - 0 : Int).toNat (fun i t => slG encP b (0 + i) t) (litG 2 (encP p)) i t
         have e0 : (b.length - 0 : Int).toNat = b.length := by omega
         simp only [e0, Nat.zero_add]
         exact (slG_snoc (enc := encP) rfl rfl i (by simpa using hi) t h).symm)
      | trace_state
end Go.Eng
