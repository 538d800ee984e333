/- The reference of histories, walked. -/
import Derived.Test.YthhangpcedbhdaaHiP
import Derived.Test.YthhangpcedbhdaaHiF
set_option linter.unusedVariables false
set_option linter.unusedSimpArgs false
namespace Go.Eng
open Go Go.Proofs

theorem CutE.goL (L : List Ev) {p : List Ev × Int × Int → Prop} {b c : Int} (h : p (L, b, c)) : CutE (List Ev × Int × Int) p := ⟨⟨_, h⟩⟩
def sCount : FSpec := spec (List Ev × Int × Int) (fun (l, th, kd) => [.c (evsS l), .i th, .i kd]) (fun (l, _, _) => l.length ≤ 1000) fun (l, th, kd) => .i (cK l th kd l.length)
set_option maxHeartbeats 4000000 in
set_option maxRecDepth 100000 in
theorem count_ok : Meets Try.prog 49 sCount := by
  refine meets_plain (gok_nil _) rfl [] (fn := Try.f49) rfl rfl rfl (by decide) fun ⟨l, th, kd⟩ hl => ?_
  have hl : l.length ≤ 1000 := hl
  repeat' (first | (intro h; first | exact Bool.noConfusion h | (guard_hyp h : true = true; clear h) | (guard_hyp h : false = false; clear h) | (simp only [decide_eq_true_eq, decide_eq_false_iff_not, beq_iff_eq, beq_eq_false_iff_ne, bne_iff_ne, bne_eq_false_iff_eq, Bool.not_eq_true', Bool.not_eq_false', ne_eq, Classical.not_not, Bool.not_true, Bool.not_false, beqL_iff, beqL_ff, List.cons.injEq, and_true] at h) | skip) | ((conv => whnf) <;> (first | exact True.intro | apply br_rec | apply And.intro | apply EntP.k0 | apply EntP.k1 | apply EntP.k2 | apply EntP.k3 | apply EntP.k4 | apply EntP.k5 | apply EntP.k6 | apply DrawP.go | (apply AnyP.mk; kernel_rfl) | (refine AggP.go 2 rfl (by kernel_rfl) ?_) | (refine AggP.go 1 rfl (by kernel_rfl) ?_) | (refine AggP.go 3 rfl (by kernel_rfl) ?_) | (refine AggP.go 4 rfl (by kernel_rfl) ?_) | (refine AggP.go 5 rfl (by kernel_rfl) ?_) | (refine AggP.go 8 rfl (by kernel_rfl) ?_) | (refine AggP.go 11 rfl (by kernel_rfl) ?_) | (refine AggP.go 10 rfl (by kernel_rfl) ?_) | (refine PairP.go (by kernel_rfl) ?_) | apply CallP.own0 | apply CallP.own1 | apply CallP.own2 | apply CallP.own3 | apply CallP.nb | apply CutE.go0 | apply CutE.go7 | apply CutE.go6 | apply CutE.go5 | apply CutE.go4 | apply CutE.go3 | apply CutE.go2 | apply CutE.go1 | apply RoP.id | apply wrapS | (with_reducible exact lenNil) | apply Eq.refl)) | ((first | (with_reducible show rvEq _ _ _ _) | (with_reducible show svEq _ _ _ _) | (with_reducible show cellEq _ _ _ _) | (with_reducible show blkEq _ _ _)); conv => whnf))
  apply LoopP.up (G := Nat) (fun k => k ≤ l.length) [1, 2, 7, 10, 11, 12] (fun k => [(12, .i k), (7, .i (cK l th kd k))]) (fun _ => []) 0 (fun k => l.length - k)
  apply And.intro
  · refine CutE.at 0 ?_
    repeat' (first | (intro h; first | exact Bool.noConfusion h | (guard_hyp h : true = true; clear h) | (guard_hyp h : false = false; clear h) | (simp only [decide_eq_true_eq, decide_eq_false_iff_not, beq_iff_eq, beq_eq_false_iff_ne, bne_iff_ne, bne_eq_false_iff_eq, Bool.not_eq_true', Bool.not_eq_false', ne_eq, Classical.not_not, Bool.not_true, Bool.not_false, beqL_iff, beqL_ff, List.cons.injEq, and_true] at h) | skip) | ((conv => whnf) <;> (first | exact True.intro | apply br_rec | apply And.intro | apply EntP.k0 | apply EntP.k1 | apply EntP.k2 | apply EntP.k3 | apply EntP.k4 | apply EntP.k5 | apply EntP.k6 | apply DrawP.go | (apply AnyP.mk; kernel_rfl) | (refine AggP.go 2 rfl (by kernel_rfl) ?_) | (refine AggP.go 1 rfl (by kernel_rfl) ?_) | (refine AggP.go 3 rfl (by kernel_rfl) ?_) | (refine AggP.go 4 rfl (by kernel_rfl) ?_) | (refine AggP.go 5 rfl (by kernel_rfl) ?_) | (refine AggP.go 8 rfl (by kernel_rfl) ?_) | (refine AggP.go 11 rfl (by kernel_rfl) ?_) | (refine AggP.go 10 rfl (by kernel_rfl) ?_) | (refine PairP.go (by kernel_rfl) ?_) | apply CallP.own0 | apply CallP.own1 | apply CallP.own2 | apply CallP.own3 | apply CallP.nb | apply CutE.go0 | apply CutE.go7 | apply CutE.go6 | apply CutE.go5 | apply CutE.go4 | apply CutE.go3 | apply CutE.go2 | apply CutE.go1 | apply RoP.id | apply wrapS | (with_reducible exact lenNil) | apply Eq.refl)) | ((first | (with_reducible show rvEq _ _ _ _) | (with_reducible show svEq _ _ _ _) | (with_reducible show cellEq _ _ _ _) | (with_reducible show blkEq _ _ _)); conv => whnf))
    all_goals first | exact Nat.zero_le _ | rfl | trace_state
  intro k hk
  have hk : k ≤ l.length := hk
  have hin := cK_in l th kd k
  have hw : IntKind.i64.wrap (cK l th kd k + 1) = cK l th kd k + 1 := wrap_i64 (by omega)
  have hs : cK l th kd (k + 1) = cK l th kd k + if (l.getD k default).2.1 = th ∧ (l.getD k default).1 = kd then 1 else 0 := rfl
  repeat' (first | (intro h; first | exact Bool.noConfusion h | (guard_hyp h : true = true; clear h) | (guard_hyp h : false = false; clear h) | (simp only [decide_eq_true_eq, decide_eq_false_iff_not, beq_iff_eq, beq_eq_false_iff_ne, bne_iff_ne, bne_eq_false_iff_eq, Bool.not_eq_true', Bool.not_eq_false', ne_eq, Classical.not_not, Bool.not_true, Bool.not_false, beqL_iff, beqL_ff, List.cons.injEq, and_true] at h) | skip) | ((conv => whnf) <;> (first | exact True.intro | apply br_rec | apply And.intro | refine CutE.at (A := Nat) (k + 1) ?_ | apply EntP.k0 | apply EntP.k1 | apply EntP.k2 | apply EntP.k3 | apply EntP.k4 | apply EntP.k5 | apply EntP.k6 | apply DrawP.go | (apply AnyP.mk; kernel_rfl) | (refine AggP.go 2 rfl (by kernel_rfl) ?_) | (refine AggP.go 1 rfl (by kernel_rfl) ?_) | (refine AggP.go 3 rfl (by kernel_rfl) ?_) | (refine AggP.go 4 rfl (by kernel_rfl) ?_) | (refine AggP.go 5 rfl (by kernel_rfl) ?_) | (refine AggP.go 8 rfl (by kernel_rfl) ?_) | (refine AggP.go 11 rfl (by kernel_rfl) ?_) | (refine AggP.go 10 rfl (by kernel_rfl) ?_) | (refine PairP.go (by kernel_rfl) ?_) | apply CallP.own0 | apply CallP.own1 | apply CallP.own2 | apply CallP.own3 | apply CallP.nb | apply CutE.go0 | apply CutE.go7 | apply CutE.go6 | apply CutE.go5 | apply CutE.go4 | apply CutE.go3 | apply CutE.go2 | apply CutE.go1 | apply RoP.id | apply wrapS | (with_reducible exact lenNil) | apply Eq.refl)) | ((first | (with_reducible show rvEq _ _ _ _) | (with_reducible show svEq _ _ _ _) | (with_reducible show cellEq _ _ _ _) | (with_reducible show blkEq _ _ _)); conv => whnf))
  all_goals try simp only [Int.toNat_natCast] at *
  all_goals first
    | omega
    | (show l.length - (k + 1) < l.length - k; omega)
    | (show k + 1 ≤ l.length; omega)
    | (rw [hs, hw, if_pos ⟨by assumption, by assumption⟩])
    | (rw [hs, if_neg (fun q => absurd q.2 (by assumption)), Int.add_zero])
    | (rw [hs, if_neg (fun q => absurd q.1 (by assumption)), Int.add_zero])
    | (rw [show k = l.length by omega])
    | trace_state
theorem cK_take {l : List Ev} {th kd : Int} {c : Nat} : ∀ k, k ≤ c → cK (l.take c) th kd k = cK l th kd k
  | 0, _ => rfl
  | k + 1, h => by
    unfold cK
    rw [cK_take k (by omega), show (l.take c).getD k default = l.getD k default by rw [List.getD_eq_getElem?_getD, List.getElem?_take, if_pos (by omega), ← List.getD_eq_getElem?_getD]]
theorem cK_len {l : List Ev} {th kd : Int} {c : Nat} (h : c ≤ l.length) : cK (l.take c) th kd (l.take c).length = cK l th kd c := by
  rw [List.length_take, Nat.min_eq_left h]; exact cK_take c (Nat.le_refl _)
def H6 : List (Nat × FSpec) := [(49, sCount)]
theorem H6_ok : GOK Try.prog (tab H6) := gok_cons count_ok (gok_nil _)
def sRRight : FSpec := spec (List Ev) (fun l => [.c (evsS l)]) (fun l => l.length ≤ 1000) fun l => .b (hRight l)
theorem rright_yes {l : List Ev} {k : Nat} (hk : l.length ≤ k) (h : Up k fun i => rOk l i) : hRight l = true := right_iff.2 fun i hi => h.get i (by omega)
theorem rright_no {l : List Ev} {k : Nat} (hk : k < l.length) (h : ¬ rOk l k) : hRight l = false := Bool.eq_false_iff.2 fun q => h (right_iff.1 q k hk)
set_option maxHeartbeats 4000000 in
set_option maxRecDepth 100000 in
theorem rright_ok : Meets Try.prog 37 sRRight := by
  refine meets_plain H6_ok rfl [] (fn := Try.f37) rfl rfl rfl (by decide) fun l hl => ?_
  have hl : l.length ≤ 1000 := hl
  repeat' (first | (intro h; first | exact Bool.noConfusion h | (guard_hyp h : true = true; clear h) | (guard_hyp h : false = false; clear h) | (simp only [decide_eq_true_eq, decide_eq_false_iff_not, beq_iff_eq, beq_eq_false_iff_ne, bne_iff_ne, bne_eq_false_iff_eq, Bool.not_eq_true', Bool.not_eq_false', ne_eq, Classical.not_not, Bool.not_true, Bool.not_false, beqL_iff, beqL_ff, List.cons.injEq, and_true] at h) | skip) | ((conv => whnf) <;> (first | exact True.intro | apply br_rec | apply And.intro | apply EntP.k0 | apply EntP.k1 | apply EntP.k2 | apply EntP.k3 | apply EntP.k4 | apply EntP.k5 | apply EntP.k6 | apply DrawP.go | (apply AnyP.mk; kernel_rfl) | (refine AggP.go 2 rfl (by kernel_rfl) ?_) | (refine AggP.go 1 rfl (by kernel_rfl) ?_) | (refine AggP.go 3 rfl (by kernel_rfl) ?_) | (refine AggP.go 4 rfl (by kernel_rfl) ?_) | (refine AggP.go 5 rfl (by kernel_rfl) ?_) | (refine AggP.go 8 rfl (by kernel_rfl) ?_) | (refine AggP.go 11 rfl (by kernel_rfl) ?_) | (refine AggP.go 10 rfl (by kernel_rfl) ?_) | (refine PairP.go (by kernel_rfl) ?_) | apply CallP.own0 | apply CallP.own1 | apply CallP.own2 | apply CallP.own3 | apply CallP.nb | apply CutE.go0 | apply CutE.go7 | apply CutE.go6 | apply CutE.go5 | apply CutE.go4 | apply CutE.go3 | apply CutE.go2 | apply CutE.go1 | apply RoP.id | apply wrapS | (with_reducible exact lenNil) | apply Eq.refl)) | ((first | (with_reducible show rvEq _ _ _ _) | (with_reducible show svEq _ _ _ _) | (with_reducible show cellEq _ _ _ _) | (with_reducible show blkEq _ _ _)); conv => whnf))
  apply LoopP.up (G := Nat) (fun k => k ≤ l.length ∧ Up k fun i => rOk l i) [0, 6, 7, 8] (fun k => [(8, .i k)]) (fun _ => []) 0 (fun k => l.length - k)
  apply And.intro
  · refine CutE.at 0 ?_
    repeat' (first | (intro h; first | exact Bool.noConfusion h | (guard_hyp h : true = true; clear h) | (guard_hyp h : false = false; clear h) | (simp only [decide_eq_true_eq, decide_eq_false_iff_not, beq_iff_eq, beq_eq_false_iff_ne, bne_iff_ne, bne_eq_false_iff_eq, Bool.not_eq_true', Bool.not_eq_false', ne_eq, Classical.not_not, Bool.not_true, Bool.not_false, beqL_iff, beqL_ff, List.cons.injEq, and_true] at h) | skip) | ((conv => whnf) <;> (first | exact True.intro | apply br_rec | apply And.intro | apply EntP.k0 | apply EntP.k1 | apply EntP.k2 | apply EntP.k3 | apply EntP.k4 | apply EntP.k5 | apply EntP.k6 | apply DrawP.go | (apply AnyP.mk; kernel_rfl) | (refine AggP.go 2 rfl (by kernel_rfl) ?_) | (refine AggP.go 1 rfl (by kernel_rfl) ?_) | (refine AggP.go 3 rfl (by kernel_rfl) ?_) | (refine AggP.go 4 rfl (by kernel_rfl) ?_) | (refine AggP.go 5 rfl (by kernel_rfl) ?_) | (refine AggP.go 8 rfl (by kernel_rfl) ?_) | (refine AggP.go 11 rfl (by kernel_rfl) ?_) | (refine AggP.go 10 rfl (by kernel_rfl) ?_) | (refine PairP.go (by kernel_rfl) ?_) | apply CallP.own0 | apply CallP.own1 | apply CallP.own2 | apply CallP.own3 | apply CallP.nb | apply CutE.go0 | apply CutE.go7 | apply CutE.go6 | apply CutE.go5 | apply CutE.go4 | apply CutE.go3 | apply CutE.go2 | apply CutE.go1 | apply RoP.id | apply wrapS | (with_reducible exact lenNil) | apply Eq.refl)) | ((first | (with_reducible show rvEq _ _ _ _) | (with_reducible show svEq _ _ _ _) | (with_reducible show cellEq _ _ _ _) | (with_reducible show blkEq _ _ _)); conv => whnf))
    all_goals first | exact Nat.zero_le _ | exact Up.zero _ | rfl | trace_state
  rintro k ⟨hk, hu⟩
  have hk : k ≤ l.length := hk
  by_cases hkl : k < l.length
  · have h0 := cK_in l (l.getD k default).2.1 0 k
    have h1 := cK_in l (l.getD k default).2.1 1 k
    have hc0 : cK (l.take k) (l.getD k default).2.1 0 (l.take k).length = cK l (l.getD k default).2.1 0 k := cK_len hk
    have hc1 : cK (l.take k) (l.getD k default).2.1 1 (l.take k).length = cK l (l.getD k default).2.1 1 k := cK_len hk
    have hw : IntKind.i64.wrap (cK l (l.getD k default).2.1 0 k - cK l (l.getD k default).2.1 1 k) = cK l (l.getD k default).2.1 0 k - cK l (l.getD k default).2.1 1 k := wrap_i64 (by omega)
    have hww : IntKind.i64.wrap (cK (l.take k) (l.getD k default).2.1 0 (l.take k).length - cK (l.take k) (l.getD k default).2.1 1 (l.take k).length) = cK l (l.getD k default).2.1 0 k - cK l (l.getD k default).2.1 1 k := by rw [hc0, hc1, hw]
    clear hc0 hc1 hw
    have hlk : (l.take k).length = k := by rw [List.length_take]; omega
    have hcell : ∀ i t, i < (l.take k).length → slG encEv (l.take k) i t = slG encEv l (Int.toNat 0 + i) t := fun i t hi => by
      rw [slG_take _ _ _ _ (by rw [List.length_take] at hi; omega)]
      simp
    have hro : rOk l k ↔ ((l.getD k default).1 = 0 → cK l (l.getD k default).2.1 0 k - cK l (l.getD k default).2.1 1 k = 0) ∧ ((l.getD k default).1 = 1 → cK l (l.getD k default).2.1 0 k - cK l (l.getD k default).2.1 1 k = 1) := Iff.rfl
    repeat' (first | (intro h; first | exact Bool.noConfusion h | (guard_hyp h : true = true; clear h) | (guard_hyp h : false = false; clear h) | (simp only [decide_eq_true_eq, decide_eq_false_iff_not, beq_iff_eq, beq_eq_false_iff_ne, bne_iff_ne, bne_eq_false_iff_eq, Bool.not_eq_true', Bool.not_eq_false', ne_eq, Classical.not_not, Bool.not_true, Bool.not_false, beqL_iff, beqL_ff, List.cons.injEq, and_true] at h) | skip) | ((conv => whnf) <;> (first | exact True.intro | apply br_rec | apply And.intro | refine CutE.goL (l.take k) ?_ | refine CutE.at (A := Nat) (k + 1) ?_ | apply EntP.k0 | apply EntP.k1 | apply EntP.k2 | apply EntP.k3 | apply EntP.k4 | apply EntP.k5 | apply EntP.k6 | apply DrawP.go | (apply AnyP.mk; kernel_rfl) | (refine AggP.go 2 rfl (by kernel_rfl) ?_) | (refine AggP.go 1 rfl (by kernel_rfl) ?_) | (refine AggP.go 3 rfl (by kernel_rfl) ?_) | (refine AggP.go 4 rfl (by kernel_rfl) ?_) | (refine AggP.go 5 rfl (by kernel_rfl) ?_) | (refine AggP.go 8 rfl (by kernel_rfl) ?_) | (refine AggP.go 11 rfl (by kernel_rfl) ?_) | (refine AggP.go 10 rfl (by kernel_rfl) ?_) | (refine PairP.go (by kernel_rfl) ?_) | apply CallP.own0 | apply CallP.own1 | apply CallP.own2 | apply CallP.own3 | apply CallP.nb | apply CutE.go0 | apply CutE.go7 | apply CutE.go6 | apply CutE.go5 | apply CutE.go4 | apply CutE.go3 | apply CutE.go2 | apply CutE.go1 | apply RoP.id | apply wrapS | (with_reducible exact lenNil) | apply Eq.refl)) | ((first | (with_reducible show rvEq _ _ _ _) | (with_reducible show svEq _ _ _ _) | (with_reducible show cellEq _ _ _ _) | (with_reducible show blkEq _ _ _)); conv => whnf))
    all_goals try simp only [Int.toNat_natCast] at *
    all_goals first
      | omega
      | exact hcell _ _ (by assumption)
      | (rw [hlk]; simp; done)
      | (show (l.take k).length ≤ 1000; omega)
      | (show l.length - (k + 1) < l.length - k; omega)
      | (show k + 1 ≤ l.length; omega)
      | exact hu.succ (hro.2 ⟨fun _ => by omega, fun _ => by omega⟩)
      | exact (rright_no hkl (fun q => by have := hro.1 q; omega)).symm
      | exact rright_no hkl (fun q => by have := hro.1 q; omega)
      | trace_state
  · repeat' (first | (intro h; first | exact Bool.noConfusion h | (guard_hyp h : true = true; clear h) | (guard_hyp h : false = false; clear h) | (simp only [decide_eq_true_eq, decide_eq_false_iff_not, beq_iff_eq, beq_eq_false_iff_ne, bne_iff_ne, bne_eq_false_iff_eq, Bool.not_eq_true', Bool.not_eq_false', ne_eq, Classical.not_not, Bool.not_true, Bool.not_false, beqL_iff, beqL_ff, List.cons.injEq, and_true] at h) | skip) | ((conv => whnf) <;> (first | exact True.intro | apply br_rec | apply And.intro | apply EntP.k0 | apply EntP.k1 | apply EntP.k2 | apply EntP.k3 | apply EntP.k4 | apply EntP.k5 | apply EntP.k6 | apply DrawP.go | (apply AnyP.mk; kernel_rfl) | (refine AggP.go 2 rfl (by kernel_rfl) ?_) | (refine AggP.go 1 rfl (by kernel_rfl) ?_) | (refine AggP.go 3 rfl (by kernel_rfl) ?_) | (refine AggP.go 4 rfl (by kernel_rfl) ?_) | (refine AggP.go 5 rfl (by kernel_rfl) ?_) | (refine AggP.go 8 rfl (by kernel_rfl) ?_) | (refine AggP.go 11 rfl (by kernel_rfl) ?_) | (refine AggP.go 10 rfl (by kernel_rfl) ?_) | (refine PairP.go (by kernel_rfl) ?_) | apply CallP.own0 | apply CallP.own1 | apply CallP.own2 | apply CallP.own3 | apply CallP.nb | apply CutE.go0 | apply CutE.go7 | apply CutE.go6 | apply CutE.go5 | apply CutE.go4 | apply CutE.go3 | apply CutE.go2 | apply CutE.go1 | apply RoP.id | apply wrapS | (with_reducible exact lenNil) | apply Eq.refl)) | ((first | (with_reducible show rvEq _ _ _ _) | (with_reducible show svEq _ _ _ _) | (with_reducible show cellEq _ _ _ _) | (with_reducible show blkEq _ _ _)); conv => whnf))
    all_goals first
      | (exfalso; omega)
      | exact rright_yes (by omega) hu
      | exact (rright_yes (by omega) hu).symm
      | trace_state
end Go.Eng
