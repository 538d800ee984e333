/- The buffer's reference: Same, Rest. -/
import Derived.Test.YtpcimaemigchiaaBufE
set_option linter.unusedVariables false
set_option linter.unusedSimpArgs false
namespace Go.Eng
open Go Go.Proofs

theorem eq_of_upG {α : Type} [Inhabited α] {a b : List α} (h : a.length = b.length) {k : Nat} (hk : a.length ≤ k) (hu : Up k fun i => a.getD i default = b.getD i default) : a = b := by
  apply List.ext_getElem h
  intro i h1 h2
  have := hu.get i (by omega)
  simpa [List.getD_eq_getElem?_getD, List.getElem?_eq_getElem h1, List.getElem?_eq_getElem h2] using this
def sRSame : FSpec := spec (List Put × List Put) (fun (a, b) => [.c (putsS a), .c (putsS b)]) (fun (a, b) => a.length ≤ 1000000 ∧ b.length ≤ 1000000) fun (a, b) => .b (decide (a = b))
set_option maxHeartbeats 2000000 in
set_option maxRecDepth 100000 in
theorem rsame_ok : Meets Try.prog 24 sRSame := by
  refine meets_plain (gok_nil _) rfl [] (fn := Try.f24) rfl rfl rfl (by decide) fun ⟨a, b⟩ ⟨ha, hb⟩ => ?_
  repeat' (first | (intro h; first | exact Bool.noConfusion h | (guard_hyp h : true = true; clear h) | (guard_hyp h : false = false; clear h) | (simp only [decide_eq_true_eq, decide_eq_false_iff_not, beq_iff_eq, beq_eq_false_iff_ne, bne_iff_ne, bne_eq_false_iff_eq, Bool.not_eq_true', Bool.not_eq_false', ne_eq, Classical.not_not, Bool.not_true, Bool.not_false, beqL_iff, beqL_ff, List.cons.injEq, and_true] at h) | skip) | ((conv => whnf) <;> (first | exact True.intro | apply br_rec | apply And.intro | apply EntP.k0 | apply EntP.k1 | apply EntP.k2 | apply EntP.k3 | apply EntP.k4 | apply EntP.k5 | apply EntP.k6 | apply DrawP.go | (apply AnyP.mk; kernel_rfl) | (refine AggP.go 2 rfl (by kernel_rfl) ?_) | (refine AggP.go 1 rfl (by kernel_rfl) ?_) | (refine AggP.go 3 rfl (by kernel_rfl) ?_) | (refine AggP.go 4 rfl (by kernel_rfl) ?_) | (refine AggP.go 5 rfl (by kernel_rfl) ?_) | (refine AggP.go 8 rfl (by kernel_rfl) ?_) | (refine AggP.go 11 rfl (by kernel_rfl) ?_) | apply CallP.own0 | apply CallP.own1 | apply CallP.own2 | apply CallP.own3 | apply CallP.nb | apply CutE.go0 | apply CutE.go7 | apply CutE.go6 | apply CutE.go5 | apply CutE.go4 | apply CutE.go3 | apply CutE.go2 | apply CutE.go1 | apply RoP.id | apply wrapS | (with_reducible exact lenNil) | apply Eq.refl)) | ((first | (with_reducible show rvEq _ _ _ _) | (with_reducible show svEq _ _ _ _) | (with_reducible show cellEq _ _ _ _) | (with_reducible show blkEq _ _ _)); conv => whnf))
  · rename_i h; exact decide_eq_false fun e => h (by rw [e])
  apply LoopP.up (G := Nat) (fun k => k ≤ a.length ∧ Up k fun i => a.getD i default = b.getD i default) [0, 1, 12, 13] (fun k => [(13, .i k)]) (fun _ => []) 0 (fun k => a.length - k)
  apply And.intro
  · refine CutE.at 0 ?_
    repeat' (first | (intro h; first | exact Bool.noConfusion h | (guard_hyp h : true = true; clear h) | (guard_hyp h : false = false; clear h) | (simp only [decide_eq_true_eq, decide_eq_false_iff_not, beq_iff_eq, beq_eq_false_iff_ne, bne_iff_ne, bne_eq_false_iff_eq, Bool.not_eq_true', Bool.not_eq_false', ne_eq, Classical.not_not, Bool.not_true, Bool.not_false, beqL_iff, beqL_ff, List.cons.injEq, and_true] at h) | skip) | ((conv => whnf) <;> (first | exact True.intro | apply br_rec | apply And.intro | apply EntP.k0 | apply EntP.k1 | apply EntP.k2 | apply EntP.k3 | apply EntP.k4 | apply EntP.k5 | apply EntP.k6 | apply DrawP.go | (apply AnyP.mk; kernel_rfl) | (refine AggP.go 2 rfl (by kernel_rfl) ?_) | (refine AggP.go 1 rfl (by kernel_rfl) ?_) | (refine AggP.go 3 rfl (by kernel_rfl) ?_) | (refine AggP.go 4 rfl (by kernel_rfl) ?_) | (refine AggP.go 5 rfl (by kernel_rfl) ?_) | (refine AggP.go 8 rfl (by kernel_rfl) ?_) | (refine AggP.go 11 rfl (by kernel_rfl) ?_) | apply CallP.own0 | apply CallP.own1 | apply CallP.own2 | apply CallP.own3 | apply CallP.nb | apply CutE.go0 | apply CutE.go7 | apply CutE.go6 | apply CutE.go5 | apply CutE.go4 | apply CutE.go3 | apply CutE.go2 | apply CutE.go1 | apply RoP.id | apply wrapS | (with_reducible exact lenNil) | apply Eq.refl)) | ((first | (with_reducible show rvEq _ _ _ _) | (with_reducible show svEq _ _ _ _) | (with_reducible show cellEq _ _ _ _) | (with_reducible show blkEq _ _ _)); conv => whnf))
    all_goals try simp only [Int.toNat_natCast, Int.toNat_zero, ge_iff_le, gt_iff_lt, Int.ofNat_le, Int.ofNat_lt, Int.ofNat_inj] at *
    all_goals first
      | omega
      | (dsimp only; omega)
      | assumption
      | exact Up.zero _
      | (show ((8 : Nat) : Int) * _ ≤ _; omega)
      | (show _ * (8 : Nat) ≤ _; omega)
      | (show _ * (16 : Nat) ≤ _; omega)
      | (show _ * (24 : Nat) ≤ _; omega)
      | trace_state
  · intro k ⟨hk, hu⟩
    have e0 : (k : Int).toNat = k := by omega
    repeat' (first | (intro h; first | exact Bool.noConfusion h | (guard_hyp h : true = true; clear h) | (guard_hyp h : false = false; clear h) | (simp only [decide_eq_true_eq, decide_eq_false_iff_not, beq_iff_eq, beq_eq_false_iff_ne, bne_iff_ne, bne_eq_false_iff_eq, Bool.not_eq_true', Bool.not_eq_false', ne_eq, Classical.not_not, Bool.not_true, Bool.not_false, beqL_iff, beqL_ff, List.cons.injEq, and_true] at h) | skip) | ((conv => whnf) <;> (first | exact True.intro | apply br_rec | apply And.intro | apply EntP.k0 | apply EntP.k1 | apply EntP.k2 | apply EntP.k3 | apply EntP.k4 | apply EntP.k5 | apply EntP.k6 | apply DrawP.go | (apply AnyP.mk; kernel_rfl) | (refine AggP.go 2 rfl (by kernel_rfl) ?_) | (refine AggP.go 1 rfl (by kernel_rfl) ?_) | (refine AggP.go 3 rfl (by kernel_rfl) ?_) | (refine AggP.go 4 rfl (by kernel_rfl) ?_) | (refine AggP.go 5 rfl (by kernel_rfl) ?_) | (refine AggP.go 8 rfl (by kernel_rfl) ?_) | (refine AggP.go 11 rfl (by kernel_rfl) ?_) | apply CallP.own0 | apply CallP.own1 | apply CallP.own2 | apply CallP.own3 | apply CallP.nb | apply CutE.go0 | apply CutE.go7 | apply CutE.go6 | apply CutE.go5 | apply CutE.go4 | apply CutE.go3 | apply CutE.go2 | apply CutE.go1 | apply RoP.id | apply wrapS | (with_reducible exact lenNil) | apply Eq.refl)) | ((first | (with_reducible show rvEq _ _ _ _) | (with_reducible show svEq _ _ _ _) | (with_reducible show cellEq _ _ _ _) | (with_reducible show blkEq _ _ _)); conv => whnf))
    all_goals try simp only [e0] at *
    all_goals first
      | omega
      | exact decide_eq_false fun e => ‹¬_› (by rw [e]; exact ⟨rfl, rfl⟩)
      | exact decide_eq_true (eq_of_upG (by omega) (k := k) (by omega) hu)
      | exact hu.succ (Prod.ext ‹_ ∧ _›.1 ‹_ ∧ _›.2)
      | trace_state

def restT (l : List Put) (k : Nat) : List Put := (l.take k).drop 1
theorem restT_len {l : List Put} {k : Nat} (hk : k ≤ l.length) : (restT l k).length = k - 1 := by simp [restT]; omega
theorem restT_snoc {l : List Put} {k : Nat} (h0 : 0 < k) (hk : k < l.length) : restT l (k + 1) = restT l k ++ [l.getD k default] := by
  unfold restT
  rw [take_getD (d := default) hk, List.drop_append_of_le_length (by simp; omega)]
theorem restT_end {l : List Put} {k : Nat} (hk : ¬ k < l.length) : restT l k = l.drop 1 := by
  unfold restT
  rw [List.take_of_length_le (by omega)]
def sRRest : FSpec := spec (List Put) (fun l => [.c (putsS l)]) (fun l => l.length ≤ 1000000) fun l => .c (putsS (l.drop 1))
set_option maxHeartbeats 2000000 in
set_option maxRecDepth 100000 in
theorem rrest_ok : Meets Try.prog 26 sRRest := by
  refine meets_plain (gok_nil _) rfl [] (fn := Try.f26) rfl rfl rfl (by decide) fun l hl => ?_
  have hl : l.length ≤ 1000000 := hl
  repeat' (first | (intro h; first | exact Bool.noConfusion h | (guard_hyp h : true = true; clear h) | (guard_hyp h : false = false; clear h) | (simp only [decide_eq_true_eq, decide_eq_false_iff_not, beq_iff_eq, beq_eq_false_iff_ne, bne_iff_ne, bne_eq_false_iff_eq, Bool.not_eq_true', Bool.not_eq_false', ne_eq, Classical.not_not, Bool.not_true, Bool.not_false, beqL_iff, beqL_ff, List.cons.injEq, and_true] at h) | skip) | ((conv => whnf) <;> (first | exact True.intro | apply br_rec | apply And.intro | apply EntP.k0 | apply EntP.k1 | apply EntP.k2 | apply EntP.k3 | apply EntP.k4 | apply EntP.k5 | apply EntP.k6 | apply DrawP.go | (apply AnyP.mk; kernel_rfl) | (refine AggP.go 2 rfl (by kernel_rfl) ?_) | (refine AggP.go 1 rfl (by kernel_rfl) ?_) | (refine AggP.go 3 rfl (by kernel_rfl) ?_) | (refine AggP.go 4 rfl (by kernel_rfl) ?_) | (refine AggP.go 5 rfl (by kernel_rfl) ?_) | (refine AggP.go 8 rfl (by kernel_rfl) ?_) | (refine AggP.go 11 rfl (by kernel_rfl) ?_) | apply CallP.own0 | apply CallP.own1 | apply CallP.own2 | apply CallP.own3 | apply CallP.nb | apply CutE.go0 | apply CutE.go7 | apply CutE.go6 | apply CutE.go5 | apply CutE.go4 | apply CutE.go3 | apply CutE.go2 | apply CutE.go1 | apply RoP.id | apply wrapS | (with_reducible exact lenNil) | apply Eq.refl)) | ((first | (with_reducible show rvEq _ _ _ _) | (with_reducible show svEq _ _ _ _) | (with_reducible show cellEq _ _ _ _) | (with_reducible show blkEq _ _ _)); conv => whnf))
  apply LoopP.up (G := Nat) (fun k => k ≤ l.length) [3, 7, 8, 9] (fun k => [(9, .i k)]) (fun k => [(0, .slc 24 2 (restT l k).length (slG encP (restT l k)))]) 1 (fun k => l.length - k)
  apply And.intro
  · refine CutE.at 0 ?_
    repeat' (first | (intro h; first | exact Bool.noConfusion h | (guard_hyp h : true = true; clear h) | (guard_hyp h : false = false; clear h) | (simp only [decide_eq_true_eq, decide_eq_false_iff_not, beq_iff_eq, beq_eq_false_iff_ne, bne_iff_ne, bne_eq_false_iff_eq, Bool.not_eq_true', Bool.not_eq_false', ne_eq, Classical.not_not, Bool.not_true, Bool.not_false, beqL_iff, beqL_ff, List.cons.injEq, and_true] at h) | skip) | ((conv => whnf) <;> (first | exact True.intro | apply br_rec | apply And.intro | apply EntP.k0 | apply EntP.k1 | apply EntP.k2 | apply EntP.k3 | apply EntP.k4 | apply EntP.k5 | apply EntP.k6 | apply DrawP.go | (apply AnyP.mk; kernel_rfl) | (refine AggP.go 2 rfl (by kernel_rfl) ?_) | (refine AggP.go 1 rfl (by kernel_rfl) ?_) | (refine AggP.go 3 rfl (by kernel_rfl) ?_) | (refine AggP.go 4 rfl (by kernel_rfl) ?_) | (refine AggP.go 5 rfl (by kernel_rfl) ?_) | (refine AggP.go 8 rfl (by kernel_rfl) ?_) | (refine AggP.go 11 rfl (by kernel_rfl) ?_) | apply CallP.own0 | apply CallP.own1 | apply CallP.own2 | apply CallP.own3 | apply CallP.nb | apply CutE.go0 | apply CutE.go7 | apply CutE.go6 | apply CutE.go5 | apply CutE.go4 | apply CutE.go3 | apply CutE.go2 | apply CutE.go1 | apply RoP.id | apply wrapS | (with_reducible exact lenNil) | apply Eq.refl)) | ((first | (with_reducible show rvEq _ _ _ _) | (with_reducible show svEq _ _ _ _) | (with_reducible show cellEq _ _ _ _) | (with_reducible show blkEq _ _ _)); conv => whnf))
    all_goals first
      | omega
      | (simp [restT] at *; done)
      | trace_state
  · intro k hk
    have e0 : (k : Int).toNat = k := by omega
    have h1 := restT_len hk
    repeat' (first | (intro h; first | exact Bool.noConfusion h | (guard_hyp h : true = true; clear h) | (guard_hyp h : false = false; clear h) | (simp only [decide_eq_true_eq, decide_eq_false_iff_not, beq_iff_eq, beq_eq_false_iff_ne, bne_iff_ne, bne_eq_false_iff_eq, Bool.not_eq_true', Bool.not_eq_false', ne_eq, Classical.not_not, Bool.not_true, Bool.not_false, beqL_iff, beqL_ff, List.cons.injEq, and_true] at h) | skip) | ((conv => whnf) <;> (first | exact True.intro | apply br_rec | apply And.intro | refine CutE.at (k + 1) ?_ | apply EntP.k0 | apply EntP.k1 | apply EntP.k2 | apply EntP.k3 | apply EntP.k4 | apply EntP.k5 | apply EntP.k6 | apply DrawP.go | (apply AnyP.mk; kernel_rfl) | (refine AggP.go 2 rfl (by kernel_rfl) ?_) | (refine AggP.go 1 rfl (by kernel_rfl) ?_) | (refine AggP.go 3 rfl (by kernel_rfl) ?_) | (refine AggP.go 4 rfl (by kernel_rfl) ?_) | (refine AggP.go 5 rfl (by kernel_rfl) ?_) | (refine AggP.go 8 rfl (by kernel_rfl) ?_) | (refine AggP.go 11 rfl (by kernel_rfl) ?_) | apply CallP.own0 | apply CallP.own1 | apply CallP.own2 | apply CallP.own3 | apply CallP.nb | apply CutE.go0 | apply CutE.go7 | apply CutE.go6 | apply CutE.go5 | apply CutE.go4 | apply CutE.go3 | apply CutE.go2 | apply CutE.go1 | apply RoP.id | apply wrapS | (with_reducible exact lenNil) | apply Eq.refl)) | ((first | (with_reducible show rvEq _ _ _ _) | (with_reducible show svEq _ _ _ _) | (with_reducible show cellEq _ _ _ _) | (with_reducible show blkEq _ _ _)); conv => whnf))
    all_goals try simp only [e0] at *
    all_goals try (have h2 := restT_len (l := l) (k := k + 1) (by omega))
    all_goals first
      | omega
      | (show (_ + 1) * 16 ≤ _; omega)
      | exact (wrap_i64 (by omega)).symm
      | (rename_i i hi t; rw [restT_snoc (by omega) (by omega)]; exact (slG_snoc (enc := encP) (k := 2) rfl rfl i (by omega) t h).symm)
      | (rename_i i hi t; omega)
      | (rw [restT_end (by omega)])
      | trace_state
end Go.Eng
