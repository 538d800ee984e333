/- MemoryMarks, walked. -/
import Derived.Test.YtpcimaemigchiaaMemL
set_option linter.unusedVariables false
set_option linter.unusedSimpArgs false
namespace Go.Eng
open Go Go.Proofs
set_option maxHeartbeats 8000000 in
set_option maxRecDepth 100000 in
theorem marks_ok : Meets Try.prog 6 sL5 := by
  refine meets_plain M5_ok rfl [] (fn := Try.f6) rfl rfl rfl (by decide) fun ⟨ws0, ts0, a, n, tag⟩ _ => ?_
  have hw : (ws0.take 170).length ≤ 170 := List.length_take_le _ _
  have ht : (ts0.take 170).length ≤ 170 := List.length_take_le _ _
  repeat' (first | (intro h; first | exact Bool.noConfusion h | (guard_hyp h : true = true; clear h) | (guard_hyp h : false = false; clear h) | (simp only [decide_eq_true_eq, decide_eq_false_iff_not, beq_iff_eq, beq_eq_false_iff_ne, bne_iff_ne, bne_eq_false_iff_eq, Bool.not_eq_true', Bool.not_eq_false', ne_eq, Classical.not_not, Bool.not_true, Bool.not_false] at h) | skip) | ((conv => whnf) <;> (first | exact True.intro | apply And.intro | apply EntP.k0 | apply EntP.k1 | apply EntP.k2 | apply EntP.k3 | apply EntP.k4 | apply EntP.k5 | apply EntP.k6 | apply DrawP.go | (apply AnyP.mk; kernel_rfl) | apply CallP.own0 | apply CallP.own1 | apply CallP.own2 | apply CallP.own3 | apply CallP.nb | apply CutE.go0 | apply CutE.go7 | apply CutE.go6 | apply CutE.go5 | apply CutE.go4 | apply CutE.go3 | apply CutE.go2 | apply CutE.go1 | apply wrapS | (with_reducible exact lenNil) | apply Eq.refl)) | ((first | (with_reducible show rvEq _ _ _ _) | (with_reducible show svEq _ _ _) | (with_reducible show cellEq _ _ _ _) | (with_reducible show blkEq _ _ _)); conv => whnf))
  all_goals try simp only at *
  all_goals generalize ws0.take 170 = ws at *
  all_goals generalize ts0.take 170 = ts at *
  all_goals try simp only [Int.toNat_natCast, Int.toNat_zero, ge_iff_le, gt_iff_lt, Int.ofNat_le, Int.ofNat_lt, Int.ofNat_inj] at *
  all_goals first
    | omega
    | (dsimp only; omega)
    | assumption
    | exact Up.zero _
    | (show ((8 : Nat) : Int) * _ ≤ _; omega)
    | (show _ * (8 : Nat) ≤ _; omega)
    | (show _ * (16 : Nat) ≤ _; omega)
    | (show _ * (24 : Nat) ≤ _; omega)
    | (have := markF_len ws ts a n tag; omega)
    | exact ⟨by assumption, by omega⟩
    | exact (sameF_self _ _).symm
    | (have hl := markF_arg (ws := ws) (ts := ts) (a := a) (n := n) (tag := tag) (fun h => absurd h.1 (by rw [(by assumption : memR ws ts = false)]; decide)); simp_all [sameF]; done)
    | (have hl := markF_arg (ws := ws) (ts := ts) (a := a) (n := n) (tag := tag) (fun h => by omega); simp_all [sameF]; done)
    | (simp_all; done)
    | trace_state
end Go.Eng
