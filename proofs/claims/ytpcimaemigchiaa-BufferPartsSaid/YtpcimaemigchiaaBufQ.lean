/- BufferParts, walked. -/
import Derived.Test.YtpcimaemigchiaaBufO
set_option linter.unusedVariables false
set_option linter.unusedSimpArgs false
namespace Go.Eng
open Go Go.Proofs

theorem push_bad {b : List Put} {d : Int} {p : Put} (h : d < 0 ∨ d > 8) : pushF b d p = ([], 1) := by rw [pushF, if_pos (by omega)]
theorem push_full {b : List Put} {d : Int} {p : Put} (h : 0 ≤ d ∧ d ≤ 8 ∧ (b.length : Int) = d) : pushF b d p = ([], 7) := by rw [pushF, if_neg (by omega), if_pos (by omega)]
theorem push_go {b : List Put} {d : Int} {p : Put} (h : 0 ≤ d ∧ d ≤ 8 ∧ (b.length : Int) < d) : pushF b d p = (b ++ [p], 0) := by rw [pushF, if_neg (by omega), if_neg (by omega)]
theorem parts1 {b : List Put} {k D : Nat} (hD : D ≤ 8) (hk : k < b.length) (h : k < D) : pushF (b.take (min k D)) D ((b.getD k default).1, (b.getD k default).2) = (b.take (min (k + 1) D), 0) := by
  rw [push_go (by simp; omega), Nat.min_eq_left (by omega), Nat.min_eq_left (by omega), take_getD (d := default) hk]
theorem parts2 {b : List Put} {k D : Nat} (hD : D ≤ 8) (hk : k < b.length) (h : ¬ k < D) : pushF (b.take (min k D)) D ((b.getD k default).1, (b.getD k default).2) = ([], 7) ∧ min (k + 1) D = min k D :=
  ⟨by rw [push_full (by simp; omega)], by omega⟩
def sParts : FSpec := sTrueB (List Put × Int) fun (b, d) => [.c (putsS b), .i d]
set_option maxHeartbeats 8000000 in
set_option maxRecDepth 100000 in
theorem parts_ok : Meets Try.prog 4 sParts := by
  refine meets_plain B6_ok rfl [2] (fn := Try.f4) rfl rfl rfl (by decide) fun ⟨b0, d⟩ _ => ?_
  have hb : (b0.take 12).length ≤ 12 := List.length_take_le _ _
  repeat' (first | (intro h; first | exact Bool.noConfusion h | (guard_hyp h : true = true; clear h) | (guard_hyp h : false = false; clear h) | (simp only [decide_eq_true_eq, decide_eq_false_iff_not, beq_iff_eq, beq_eq_false_iff_ne, bne_iff_ne, bne_eq_false_iff_eq, Bool.not_eq_true', Bool.not_eq_false', ne_eq, Classical.not_not, Bool.not_true, Bool.not_false, beqL_iff, beqL_ff, List.cons.injEq, and_true] at h) | skip) | ((conv => whnf) <;> (first | exact True.intro | apply br_rec | apply And.intro | apply EntP.k0 | apply EntP.k1 | apply EntP.k2 | apply EntP.k3 | apply EntP.k4 | apply EntP.k5 | apply EntP.k6 | apply DrawP.go | (apply AnyP.mk; kernel_rfl) | (refine AggP.go 2 rfl (by kernel_rfl) ?_) | (refine AggP.go 1 rfl (by kernel_rfl) ?_) | (refine AggP.go 3 rfl (by kernel_rfl) ?_) | (refine AggP.go 4 rfl (by kernel_rfl) ?_) | (refine AggP.go 5 rfl (by kernel_rfl) ?_) | (refine AggP.go 8 rfl (by kernel_rfl) ?_) | (refine AggP.go 11 rfl (by kernel_rfl) ?_) | apply CallP.own0 | apply CallP.own1 | apply CallP.own2 | apply CallP.own3 | apply CallP.nb | apply CutE.go0 | apply CutE.go7 | apply CutE.go6 | apply CutE.go5 | apply CutE.go4 | apply CutE.go3 | apply CutE.go2 | apply CutE.go1 | apply wrapS | (with_reducible exact lenNil) | apply Eq.refl)) | ((first | (with_reducible show rvEq _ _ _ _) | (with_reducible show svEq _ _ _ _) | (with_reducible show cellEq _ _ _ _) | (with_reducible show blkEq _ _ _)); conv => whnf))
  apply CutP.up (G := Unit) (fun _ => True) [0, 1] (fun _ => [(0, .s (.c (putsS (b0.take 12))))]) (fun _ => []) 0
  apply And.intro
  · repeat' (first | (intro h; first | exact Bool.noConfusion h | (guard_hyp h : true = true; clear h) | (guard_hyp h : false = false; clear h) | (simp only [decide_eq_true_eq, decide_eq_false_iff_not, beq_iff_eq, beq_eq_false_iff_ne, bne_iff_ne, bne_eq_false_iff_eq, Bool.not_eq_true', Bool.not_eq_false', ne_eq, Classical.not_not, Bool.not_true, Bool.not_false, beqL_iff, beqL_ff, List.cons.injEq, and_true] at h) | skip) | ((conv => whnf) <;> (first | exact True.intro | apply br_rec | apply And.intro | apply EntP.k0 | apply EntP.k1 | apply EntP.k2 | apply EntP.k3 | apply EntP.k4 | apply EntP.k5 | apply EntP.k6 | apply DrawP.go | (apply AnyP.mk; kernel_rfl) | (refine AggP.go 2 rfl (by kernel_rfl) ?_) | (refine AggP.go 1 rfl (by kernel_rfl) ?_) | (refine AggP.go 3 rfl (by kernel_rfl) ?_) | (refine AggP.go 4 rfl (by kernel_rfl) ?_) | (refine AggP.go 5 rfl (by kernel_rfl) ?_) | (refine AggP.go 8 rfl (by kernel_rfl) ?_) | (refine AggP.go 11 rfl (by kernel_rfl) ?_) | apply CallP.own0 | apply CallP.own1 | apply CallP.own2 | apply CallP.own3 | apply CallP.nb | apply CutE.go0 | apply CutE.go7 | apply CutE.go6 | apply CutE.go5 | apply CutE.go4 | apply CutE.go3 | apply CutE.go2 | apply CutE.go1 | apply wrapS | (with_reducible exact lenNil) | apply Eq.refl)) | ((first | (with_reducible show rvEq _ _ _ _) | (with_reducible show svEq _ _ _ _) | (with_reducible show cellEq _ _ _ _) | (with_reducible show blkEq _ _ _)); conv => whnf))
    all_goals try simp only [Int.toNat_natCast, Int.toNat_zero, ge_iff_le, gt_iff_lt, Int.ofNat_le, Int.ofNat_lt, Int.ofNat_inj] at *
    all_goals first
      | omega
      | (dsimp only; omega)
      | assumption
      | exact Up.zero _
      | (show ((8 : Nat) : Int) * _ ≤ _; omega)
      | (show _ * (8 : Nat) ≤ _; omega)
      | (show _ * (16 : Nat) ≤ _; omega)
      | (show _ * (24 : Nat) ≤ _; omega)
      | exact take_lo (m := 12)
      | exact take_hi (m := 12)
      | exact take_len (m := 12)
      | (apply take_cell (m := 12); assumption)
      | trace_state
  rintro ⟨⟩ _
  generalize b0.take 12 = b at *
  repeat' (first | (intro h; first | exact Bool.noConfusion h | (guard_hyp h : true = true; clear h) | (guard_hyp h : false = false; clear h) | (simp only [decide_eq_true_eq, decide_eq_false_iff_not, beq_iff_eq, beq_eq_false_iff_ne, bne_iff_ne, bne_eq_false_iff_eq, Bool.not_eq_true', Bool.not_eq_false', ne_eq, Classical.not_not, Bool.not_true, Bool.not_false, beqL_iff, beqL_ff, List.cons.injEq, and_true] at h) | skip) | ((conv => whnf) <;> (first | exact True.intro | apply br_rec | apply And.intro | (refine CutE.at (([], d, (1, 0)) : List Put × Int × Put) ?_) | apply EntP.k0 | apply EntP.k1 | apply EntP.k2 | apply EntP.k3 | apply EntP.k4 | apply EntP.k5 | apply EntP.k6 | apply DrawP.go | (apply AnyP.mk; kernel_rfl) | (refine AggP.go 2 rfl (by kernel_rfl) ?_) | (refine AggP.go 1 rfl (by kernel_rfl) ?_) | (refine AggP.go 3 rfl (by kernel_rfl) ?_) | (refine AggP.go 4 rfl (by kernel_rfl) ?_) | (refine AggP.go 5 rfl (by kernel_rfl) ?_) | (refine AggP.go 8 rfl (by kernel_rfl) ?_) | (refine AggP.go 11 rfl (by kernel_rfl) ?_) | apply CallP.own0 | apply CallP.own1 | apply CallP.own2 | apply CallP.own3 | apply CallP.nb | apply CutE.go0 | apply CutE.go7 | apply CutE.go6 | apply CutE.go5 | apply CutE.go4 | apply CutE.go3 | apply CutE.go2 | apply CutE.go1 | apply wrapS | (with_reducible exact lenNil) | apply Eq.refl)) | ((first | (with_reducible show rvEq _ _ _ _) | (with_reducible show svEq _ _ _ _) | (with_reducible show cellEq _ _ _ _) | (with_reducible show blkEq _ _ _)); conv => whnf))
  all_goals try first
    | exact Nat.zero_le _
    | (rw [push_bad (by omega)]; done)
    | (rw [push_bad (by omega)]; rfl)
    | (rw [push_bad (by omega)] at *; first | contradiction | exact absurd rfl (by assumption))
    | (rw [push_bad (by omega)] at *; exact absurd True.intro (by assumption))

  obtain ⟨D, rfl⟩ : ∃ D : Nat, d = D := ⟨d.toNat, by omega⟩
  apply LoopP.up (G := Nat) (fun k => k ≤ b.length) [0, 1, 7, 46, 47, 48] (fun k => [(7, .s (.c (putsS (b.take (min k D))))), (48, .i k)]) (fun _ => []) 0 (fun k => b.length - k)
  apply And.intro
  · refine CutE.at 0 ?_
    repeat' (first | (intro h; first | exact Bool.noConfusion h | (guard_hyp h : true = true; clear h) | (guard_hyp h : false = false; clear h) | (simp only [decide_eq_true_eq, decide_eq_false_iff_not, beq_iff_eq, beq_eq_false_iff_ne, bne_iff_ne, bne_eq_false_iff_eq, Bool.not_eq_true', Bool.not_eq_false', ne_eq, Classical.not_not, Bool.not_true, Bool.not_false, beqL_iff, beqL_ff, List.cons.injEq, and_true] at h) | skip) | ((conv => whnf) <;> (first | exact True.intro | apply br_rec | apply And.intro | apply EntP.k0 | apply EntP.k1 | apply EntP.k2 | apply EntP.k3 | apply EntP.k4 | apply EntP.k5 | apply EntP.k6 | apply DrawP.go | (apply AnyP.mk; kernel_rfl) | (refine AggP.go 2 rfl (by kernel_rfl) ?_) | (refine AggP.go 1 rfl (by kernel_rfl) ?_) | (refine AggP.go 3 rfl (by kernel_rfl) ?_) | (refine AggP.go 4 rfl (by kernel_rfl) ?_) | (refine AggP.go 5 rfl (by kernel_rfl) ?_) | (refine AggP.go 8 rfl (by kernel_rfl) ?_) | (refine AggP.go 11 rfl (by kernel_rfl) ?_) | apply CallP.own0 | apply CallP.own1 | apply CallP.own2 | apply CallP.own3 | apply CallP.nb | apply CutE.go0 | apply CutE.go7 | apply CutE.go6 | apply CutE.go5 | apply CutE.go4 | apply CutE.go3 | apply CutE.go2 | apply CutE.go1 | apply wrapS | (with_reducible exact lenNil) | apply Eq.refl)) | ((first | (with_reducible show rvEq _ _ _ _) | (with_reducible show svEq _ _ _ _) | (with_reducible show cellEq _ _ _ _) | (with_reducible show blkEq _ _ _)); conv => whnf))
    all_goals try simp only [Int.toNat_natCast, Int.toNat_zero, ge_iff_le, gt_iff_lt, Int.ofNat_le, Int.ofNat_lt, Int.ofNat_inj] at *
    all_goals first
      | omega
      | (dsimp only; omega)
      | assumption
      | exact Up.zero _
      | (show ((8 : Nat) : Int) * _ ≤ _; omega)
      | (show _ * (8 : Nat) ≤ _; omega)
      | (show _ * (16 : Nat) ≤ _; omega)
      | (show _ * (24 : Nat) ≤ _; omega)
      | trace_state
  · intro k hk
    have hlt : (b.take (min k D)).length = min k D := by simp; omega
    repeat' (first | (intro h; first | exact Bool.noConfusion h | (guard_hyp h : true = true; clear h) | (guard_hyp h : false = false; clear h) | (simp only [decide_eq_true_eq, decide_eq_false_iff_not, beq_iff_eq, beq_eq_false_iff_ne, bne_iff_ne, bne_eq_false_iff_eq, Bool.not_eq_true', Bool.not_eq_false', ne_eq, Classical.not_not, Bool.not_true, Bool.not_false, beqL_iff, beqL_ff, List.cons.injEq, and_true] at h) | skip) | ((conv => whnf) <;> (first | exact True.intro | apply br_rec | apply And.intro | refine CutE.at (A := Nat) (k + 1) ?_ | apply EntP.k0 | apply EntP.k1 | apply EntP.k2 | apply EntP.k3 | apply EntP.k4 | apply EntP.k5 | apply EntP.k6 | apply DrawP.go | (apply AnyP.mk; kernel_rfl) | (refine AggP.go 2 rfl (by kernel_rfl) ?_) | (refine AggP.go 1 rfl (by kernel_rfl) ?_) | (refine AggP.go 3 rfl (by kernel_rfl) ?_) | (refine AggP.go 4 rfl (by kernel_rfl) ?_) | (refine AggP.go 5 rfl (by kernel_rfl) ?_) | (refine AggP.go 8 rfl (by kernel_rfl) ?_) | (refine AggP.go 11 rfl (by kernel_rfl) ?_) | apply CallP.own0 | apply CallP.own1 | apply CallP.own2 | apply CallP.own3 | apply CallP.nb | apply CutE.go0 | apply CutE.go7 | apply CutE.go6 | apply CutE.go5 | apply CutE.go4 | apply CutE.go3 | apply CutE.go2 | apply CutE.go1 | apply wrapS | (with_reducible exact lenNil) | apply Eq.refl)) | ((first | (with_reducible show rvEq _ _ _ _) | (with_reducible show svEq _ _ _ _) | (with_reducible show cellEq _ _ _ _) | (with_reducible show blkEq _ _ _)); conv => whnf))
    all_goals try simp only [Int.toNat_natCast] at *
    all_goals try (first
      | omega
      | (have h1 := parts1 (b := b) (k := k) (D := D) (by omega) (by omega) (by omega); simp only [h1] at *; first | (exact absurd rfl (by assumption)) | (exact absurd True.intro (by assumption)) | done)
      | (have h1 := parts2 (b := b) (k := k) (D := D) (by omega) (by omega) (by omega); simp only [h1.1, h1.2] at *; first | (exact absurd rfl (by assumption)) | (exact absurd True.intro (by assumption)) | done)
      | (have h1 := parts1 (b := b) (k := k) (D := D) (by omega) (by omega) (by omega); have hl2 : (b.take (min (k + 1) D)).length = k + 1 := by { simp; omega }; simp only [h1, wrap_add1 (show k < 9223372036854775807 by omega)] at *; omega)
      | (show (b.take (min k D)).length ≤ 1000000; omega)
      | (show b.length - (k + 1) < b.length - k; omega)
      | (show k + 1 ≤ b.length; omega))
    obtain rfl : k = b.length := by omega
    apply LoopP.up (G := Nat) (fun k => k ≤ min b.length D) [0, 7, 84, 85] (fun k => [(7, .s (.c (putsS ((b.take (min b.length D)).drop k)))), (85, .i k)]) (fun _ => []) 0 (fun k => b.length - k)
    apply And.intro
    · refine CutE.at 0 ?_
      repeat' (first | (intro h; first | exact Bool.noConfusion h | (guard_hyp h : true = true; clear h) | (guard_hyp h : false = false; clear h) | (simp only [decide_eq_true_eq, decide_eq_false_iff_not, beq_iff_eq, beq_eq_false_iff_ne, bne_iff_ne, bne_eq_false_iff_eq, Bool.not_eq_true', Bool.not_eq_false', ne_eq, Classical.not_not, Bool.not_true, Bool.not_false, beqL_iff, beqL_ff, List.cons.injEq, and_true] at h) | skip) | ((conv => whnf) <;> (first | exact True.intro | apply br_rec | apply And.intro | apply EntP.k0 | apply EntP.k1 | apply EntP.k2 | apply EntP.k3 | apply EntP.k4 | apply EntP.k5 | apply EntP.k6 | apply DrawP.go | (apply AnyP.mk; kernel_rfl) | (refine AggP.go 2 rfl (by kernel_rfl) ?_) | (refine AggP.go 1 rfl (by kernel_rfl) ?_) | (refine AggP.go 3 rfl (by kernel_rfl) ?_) | (refine AggP.go 4 rfl (by kernel_rfl) ?_) | (refine AggP.go 5 rfl (by kernel_rfl) ?_) | (refine AggP.go 8 rfl (by kernel_rfl) ?_) | (refine AggP.go 11 rfl (by kernel_rfl) ?_) | apply CallP.own0 | apply CallP.own1 | apply CallP.own2 | apply CallP.own3 | apply CallP.nb | apply CutE.go0 | apply CutE.go7 | apply CutE.go6 | apply CutE.go5 | apply CutE.go4 | apply CutE.go3 | apply CutE.go2 | apply CutE.go1 | apply wrapS | (with_reducible exact lenNil) | apply Eq.refl)) | ((first | (with_reducible show rvEq _ _ _ _) | (with_reducible show svEq _ _ _ _) | (with_reducible show cellEq _ _ _ _) | (with_reducible show blkEq _ _ _)); conv => whnf))
      all_goals try simp only [Int.toNat_natCast, Int.toNat_zero, ge_iff_le, gt_iff_lt, Int.ofNat_le, Int.ofNat_lt, Int.ofNat_inj] at *
      all_goals first
        | omega
        | (dsimp only; omega)
        | assumption
        | exact Up.zero _
        | (show ((8 : Nat) : Int) * _ ≤ _; omega)
        | (show _ * (8 : Nat) ≤ _; omega)
        | (show _ * (16 : Nat) ≤ _; omega)
        | (show _ * (24 : Nat) ≤ _; omega)
        | trace_state
    · intro k hk
      have hL : ((b.take (min b.length D)).drop k).length = min b.length D - k := by simp
      have hdd : ((b.take (min b.length D)).drop k).drop 1 = (b.take (min b.length D)).drop (k + 1) := by rw [List.drop_drop]
      have hget : k < min b.length D → ((b.take (min b.length D)).drop k).getD 0 default = b.getD k default := fun h => by
        simp only [List.getD_eq_getElem?_getD, List.getElem?_drop, Nat.add_zero]
        rw [List.getElem?_take_of_lt (by omega)]
      have hm : (if D < b.length then (D : Int) else b.length) = (min b.length D : Nat) := by split <;> omega
      repeat' (first | (intro h; first | exact Bool.noConfusion h | (guard_hyp h : true = true; clear h) | (guard_hyp h : false = false; clear h) | (simp only [decide_eq_true_eq, decide_eq_false_iff_not, beq_iff_eq, beq_eq_false_iff_ne, bne_iff_ne, bne_eq_false_iff_eq, Bool.not_eq_true', Bool.not_eq_false', ne_eq, Classical.not_not, Bool.not_true, Bool.not_false, beqL_iff, beqL_ff, List.cons.injEq, and_true] at h) | skip) | ((conv => whnf) <;> (first | exact True.intro | apply br_rec | apply And.intro | refine CutE.at (A := Nat) (k + 1) ?_ | apply EntP.k0 | apply EntP.k1 | apply EntP.k2 | apply EntP.k3 | apply EntP.k4 | apply EntP.k5 | apply EntP.k6 | apply DrawP.go | (apply AnyP.mk; kernel_rfl) | (refine AggP.go 2 rfl (by kernel_rfl) ?_) | (refine AggP.go 1 rfl (by kernel_rfl) ?_) | (refine AggP.go 3 rfl (by kernel_rfl) ?_) | (refine AggP.go 4 rfl (by kernel_rfl) ?_) | (refine AggP.go 5 rfl (by kernel_rfl) ?_) | (refine AggP.go 8 rfl (by kernel_rfl) ?_) | (refine AggP.go 11 rfl (by kernel_rfl) ?_) | apply CallP.own0 | apply CallP.own1 | apply CallP.own2 | apply CallP.own3 | apply CallP.nb | apply CutE.go0 | apply CutE.go7 | apply CutE.go6 | apply CutE.go5 | apply CutE.go4 | apply CutE.go3 | apply CutE.go2 | apply CutE.go1 | apply wrapS | (with_reducible exact lenNil) | apply Eq.refl)) | ((first | (with_reducible show rvEq _ _ _ _) | (with_reducible show svEq _ _ _ _) | (with_reducible show cellEq _ _ _ _) | (with_reducible show blkEq _ _ _)); conv => whnf))
      all_goals try simp only [Int.toNat_natCast, ge_iff_le, gt_iff_lt, Int.ofNat_lt] at *
      all_goals try simp only [hm, hdd] at *
      all_goals try simp only [Int.ofNat_lt] at *
      all_goals first
        | omega
        | (show (List.drop k (List.take (min b.length D) b)).length ≤ 1000000; omega)
        | (rw [if_neg (by omega)] at *; exact absurd rfl (by assumption))
        | (rw [hget (by omega)] at *; exact absurd (And.intro rfl rfl) (by assumption))
        | (rw [if_pos (by omega)]; rfl)
        | exact (wrap_add1 (by omega)).symm
        | rfl
        | trace_state
end Go.Eng
