/- WeighLess, walked. -/
import Derived.Test.YtmjogckeaaaicaaWkD
set_option linter.unusedVariables false
set_option linter.unusedSimpArgs false
namespace Go.Eng
open Go Go.Proofs

theorem zero_is {a : Nat} (ha : a < 2 ^ 64) (h : fNan a = false) (h0 : skey a = 0) : a = 0 ∨ a = 9223372036854775808 := by
  have ha : a < 18446744073709551616 := ha
  unfold skey fRung fNeg at h0
  by_cases e : a < 9223372036854775808
  · rw [show a / 9223372036854775808 = 0 by omega] at h0
    have h0 : ((a % 9223372036854775808 : Nat) : Int) = 0 := h0
    omega
  · rw [show a / 9223372036854775808 = 1 by omega] at h0
    have h0 : -((a % 9223372036854775808 : Nat) : Int) = 0 := h0
    omega
def sBelow : FSpec := spec Nat (fun a => [.c (Cell.f a)]) (fun a => a = 0 ∨ a = 9223372036854775808) fun a => .b (fNeg a)
set_option maxHeartbeats 4000000 in
set_option maxRecDepth 100000 in
theorem below_ok : Meets Try.prog 44 sBelow := by
  refine meets_plain (gok_nil _) rfl [] (fn := Try.f44) rfl rfl rfl (by decide) fun a ha => ?_
  have ha : a = 0 ∨ a = 9223372036854775808 := ha
  have h1 : fDivOk 4607182418800017408 a = true := by
    rcases ha with rfl | rfl
    · exact fDiv_zero.1
    · exact fDiv_nzero.1
  have h2 : fLt (fDiv 4607182418800017408 a) 0 = fNeg a := by
    rcases ha with rfl | rfl
    · rw [fDiv_zero.2, fLt_is]; decide
    · rw [fDiv_nzero.2, fLt_is]; decide
  repeat' (first | (intro h; first | exact Bool.noConfusion h | (guard_hyp h : true = true; clear h) | (guard_hyp h : false = false; clear h) | (simp only [decide_eq_true_eq, decide_eq_false_iff_not, beq_iff_eq, beq_eq_false_iff_ne, bne_iff_ne, bne_eq_false_iff_eq, Bool.not_eq_true', Bool.not_eq_false', ne_eq, Classical.not_not, Bool.not_true, Bool.not_false, beqL_iff, beqL_ff, List.cons.injEq, and_true] at h) | skip) | ((conv => whnf) <;> (first | exact True.intro | apply br_rec | apply And.intro | apply EntP.k0 | apply EntP.k1 | apply EntP.k2 | apply EntP.k3 | apply EntP.k4 | apply EntP.k5 | apply EntP.k6 | apply DrawP.go | (apply AnyP.mk; kernel_rfl) | (refine AggP.go 2 rfl (by kernel_rfl) ?_) | (refine AggP.go 1 rfl (by kernel_rfl) ?_) | (refine AggP.go 3 rfl (by kernel_rfl) ?_) | (refine AggP.go 4 rfl (by kernel_rfl) ?_) | (refine AggP.go 5 rfl (by kernel_rfl) ?_) | (refine AggP.go 8 rfl (by kernel_rfl) ?_) | (refine AggP.go 11 rfl (by kernel_rfl) ?_) | apply CallP.own0 | apply CallP.own1 | apply CallP.own2 | apply CallP.own3 | apply CallP.nb | apply CutE.go0 | apply CutE.go7 | apply CutE.go6 | apply CutE.go5 | apply CutE.go4 | apply CutE.go3 | apply CutE.go2 | apply CutE.go1 | apply RoP.id | apply wrapS | (with_reducible exact lenNil) | apply Eq.refl)) | ((first | (with_reducible show rvEq _ _ _ _) | (with_reducible show svEq _ _ _ _) | (with_reducible show cellEq _ _ _ _) | (with_reducible show blkEq _ _ _)); conv => whnf))
  all_goals first
    | exact h1
    | exact h2.symm
    | trace_state
theorem fEq_self {a : Nat} : fEq a a = !fNan a := by rw [fEq_is]; cases fNan a <;> simp
theorem fEq_zero {a : Nat} : fEq a 0 = decide (fNan a = false ∧ skey a = 0) := by
  have n0 : fNan 0 = false := by decide
  have s0 : skey 0 = 0 := by decide
  rw [fEq_is, n0, s0]
  congr 1
  simp
theorem less_nan {a b : Nat} (h : fNan a = true) : lessF a b = false := by unfold lessF; rw [if_pos (.inl h), h]; rfl
theorem less_nan2 {a b : Nat} (h : fNan a = false) (h2 : fNan b = true) : lessF a b = true := by unfold lessF; rw [if_pos (.inr h2), h, h2]; rfl
theorem less_zero {a b : Nat} (h : fNan a = false) (h2 : fNan b = false) (h3 : skey a = 0) (h4 : skey b = 0) : lessF a b = (fNeg a && !fNeg b) := by
  unfold lessF; rw [if_neg (by rw [h, h2]; simp), if_pos (by rw [h3, h4])]
theorem less_ne {a b : Nat} (h : fNan a = false) (h2 : fNan b = false) (h3 : ¬ (skey a = 0 ∧ skey b = 0)) : lessF a b = fLt a b := by
  unfold lessF
  rw [if_neg (by rw [h, h2]; simp), fLt_is, h, h2]
  by_cases e : skey a = skey b
  · rw [if_pos e]
    have eqsg : fNeg a = fNeg b := by
      have h0 : ¬ skey a = 0 := fun q => h3 ⟨q, e ▸ q⟩
      unfold skey at e h0
      cases e1 : fNeg a <;> cases e2 : fNeg b <;> simp only [e1, e2, if_true, if_false, Bool.false_eq_true] at e h0 <;> first | rfl | omega
    rw [eqsg, e]
    cases fNeg b <;> simp
  · rw [if_neg e]
    congr 1
    simp
def Wk6 : List (Nat × FSpec) := [(44, sBelow)]
theorem Wk6_ok : GOK Try.prog (tab Wk6) := gok_cons below_ok (gok_nil _)
set_option maxHeartbeats 4000000 in
set_option maxRecDepth 100000 in
theorem rless_ok : Meets Try.prog 16 sLess := by
  refine meets_plain Wk6_ok rfl [] (fn := Try.f16) rfl rfl rfl (by decide) fun ⟨a, b⟩ h => ?_
  have ha : a < 2 ^ 64 := h.1
  have hb : b < 2 ^ 64 := h.2
  clear h
  have hza := zero_is ha
  have hzb := zero_is hb
  repeat' (first | (intro h; first | exact Bool.noConfusion h | (guard_hyp h : true = true; clear h) | (guard_hyp h : false = false; clear h) | (simp only [decide_eq_true_eq, decide_eq_false_iff_not, beq_iff_eq, beq_eq_false_iff_ne, bne_iff_ne, bne_eq_false_iff_eq, Bool.not_eq_true', Bool.not_eq_false', ne_eq, Classical.not_not, Bool.not_true, Bool.not_false, beqL_iff, beqL_ff, List.cons.injEq, and_true] at h) | skip) | ((conv => whnf) <;> (first | exact True.intro | apply br_rec | apply And.intro | apply EntP.k0 | apply EntP.k1 | apply EntP.k2 | apply EntP.k3 | apply EntP.k4 | apply EntP.k5 | apply EntP.k6 | apply DrawP.go | (apply AnyP.mk; kernel_rfl) | (refine AggP.go 2 rfl (by kernel_rfl) ?_) | (refine AggP.go 1 rfl (by kernel_rfl) ?_) | (refine AggP.go 3 rfl (by kernel_rfl) ?_) | (refine AggP.go 4 rfl (by kernel_rfl) ?_) | (refine AggP.go 5 rfl (by kernel_rfl) ?_) | (refine AggP.go 8 rfl (by kernel_rfl) ?_) | (refine AggP.go 11 rfl (by kernel_rfl) ?_) | apply CallP.own0 | apply CallP.own1 | apply CallP.own2 | apply CallP.own3 | apply CallP.nb | apply CutE.go0 | apply CutE.go7 | apply CutE.go6 | apply CutE.go5 | apply CutE.go4 | apply CutE.go3 | apply CutE.go2 | apply CutE.go1 | apply RoP.id | apply wrapS | (with_reducible exact lenNil) | apply Eq.refl)) | ((first | (with_reducible show rvEq _ _ _ _) | (with_reducible show svEq _ _ _ _) | (with_reducible show cellEq _ _ _ _) | (with_reducible show blkEq _ _ _)); conv => whnf))
  all_goals simp only [fEq_self, fEq_zero, decide_eq_true_eq, decide_eq_false_iff_not, Bool.not_eq_true', Bool.not_eq_false'] at *
  all_goals first
    | exact less_nan (by assumption)
    | exact less_nan2 (by assumption) (by assumption)
    | (show a = 0 ∨ a = 9223372036854775808; exact hza (by assumption) (by simp_all; done))
    | (show b = 0 ∨ b = 9223372036854775808; exact hzb (by assumption) (by simp_all; done))
    | (rw [less_zero (by assumption) (by assumption) (by simp_all; done) (by simp_all; done)]; simp_all; done)
    | exact less_ne (by assumption) (by assumption) (by simp_all; done)
    | trace_state
def leastG (l : List Nat) (i : Nat) : Int := if i = 0 then 0 else firstG (fun _ => true) l i
theorem leastG_in (l : List Nat) (i : Nat) : 0 ≤ leastG l i ∧ (leastG l i ≤ 0 ∨ leastG l i < i) := by
  unfold leastG
  split
  · omega
  · have := firstG_in (fun _ => true) l i
    have h := firstA_pos (l := l) (i - 1)
    rw [show i - 1 + 1 = i by omega] at h
    omega
theorem leastG_yes {l : List Nat} {i : Nat} (h : lessF (l.getD i default) (l.getD (leastG l i).toNat default) = true) : leastG l (i + 1) = i := by
  unfold leastG at h ⊢
  rw [if_neg (by omega)]
  split at h
  · rename_i e
    subst e
    rw [lessF_is, decide_eq_true_eq] at h
    exact absurd h (Int.lt_irrefl _)
  · exact firstG_yes rfl (.inr h)
theorem leastG_no {l : List Nat} {i : Nat} (h : lessF (l.getD i default) (l.getD (leastG l i).toNat default) = false) : leastG l (i + 1) = leastG l i := by
  unfold leastG at h ⊢
  rw [if_neg (by omega)]
  split at h
  · rename_i e
    subst e
    rw [if_pos rfl]
    exact firstG_yes rfl (.inl (by show (-1 : Int) < 0; omega))
  · rename_i e
    rw [if_neg e]
    have hp := firstA_pos (l := l) (i - 1)
    rw [show i - 1 + 1 = i by omega] at hp
    exact firstG_no2 (by omega) h
def Wk7 : List (Nat × FSpec) := [(16, sLess)]
theorem Wk7_ok : GOK Try.prog (tab Wk7) := gok_cons rless_ok (gok_nil _)
def sRLeast : FSpec := spec (List Nat) (fun l => [.c (flsS l)]) (fun l => OkF l ∧ l.length ≤ 1000) fun l => .i (leastG l l.length)
set_option maxHeartbeats 4000000 in
set_option maxRecDepth 100000 in
theorem rleast_ok : Meets Try.prog 17 sRLeast := by
  refine meets_plain Wk7_ok rfl [] (fn := Try.f17) rfl rfl rfl (by decide) fun l hh => ?_
  have hok : OkF l := hh.1
  have hlen : l.length ≤ 1000 := hh.2
  clear hh
  repeat' (first | (intro h; first | exact Bool.noConfusion h | (guard_hyp h : true = true; clear h) | (guard_hyp h : false = false; clear h) | (simp only [decide_eq_true_eq, decide_eq_false_iff_not, beq_iff_eq, beq_eq_false_iff_ne, bne_iff_ne, bne_eq_false_iff_eq, Bool.not_eq_true', Bool.not_eq_false', ne_eq, Classical.not_not, Bool.not_true, Bool.not_false, beqL_iff, beqL_ff, List.cons.injEq, and_true] at h) | skip) | ((conv => whnf) <;> (first | exact True.intro | apply br_rec | apply And.intro | apply EntP.k0 | apply EntP.k1 | apply EntP.k2 | apply EntP.k3 | apply EntP.k4 | apply EntP.k5 | apply EntP.k6 | apply DrawP.go | (apply AnyP.mk; kernel_rfl) | (refine AggP.go 2 rfl (by kernel_rfl) ?_) | (refine AggP.go 1 rfl (by kernel_rfl) ?_) | (refine AggP.go 3 rfl (by kernel_rfl) ?_) | (refine AggP.go 4 rfl (by kernel_rfl) ?_) | (refine AggP.go 5 rfl (by kernel_rfl) ?_) | (refine AggP.go 8 rfl (by kernel_rfl) ?_) | (refine AggP.go 11 rfl (by kernel_rfl) ?_) | apply CallP.own0 | apply CallP.own1 | apply CallP.own2 | apply CallP.own3 | apply CallP.nb | apply CutE.go0 | apply CutE.go7 | apply CutE.go6 | apply CutE.go5 | apply CutE.go4 | apply CutE.go3 | apply CutE.go2 | apply CutE.go1 | apply RoP.id | apply wrapS | (with_reducible exact lenNil) | apply Eq.refl)) | ((first | (with_reducible show rvEq _ _ _ _) | (with_reducible show svEq _ _ _ _) | (with_reducible show cellEq _ _ _ _) | (with_reducible show blkEq _ _ _)); conv => whnf))
  apply LoopP.up (G := Nat) (fun i => i ≤ l.length) [0, 3, 6, 7, 8] (fun i => [(8, .i i), (3, .i (leastG l i))]) (fun _ => []) 0 (fun i => l.length - i)
  apply And.intro
  · refine CutE.at 0 ?_
    repeat' (first | (intro h; first | exact Bool.noConfusion h | (guard_hyp h : true = true; clear h) | (guard_hyp h : false = false; clear h) | (simp only [decide_eq_true_eq, decide_eq_false_iff_not, beq_iff_eq, beq_eq_false_iff_ne, bne_iff_ne, bne_eq_false_iff_eq, Bool.not_eq_true', Bool.not_eq_false', ne_eq, Classical.not_not, Bool.not_true, Bool.not_false, beqL_iff, beqL_ff, List.cons.injEq, and_true] at h) | skip) | ((conv => whnf) <;> (first | exact True.intro | apply br_rec | apply And.intro | apply EntP.k0 | apply EntP.k1 | apply EntP.k2 | apply EntP.k3 | apply EntP.k4 | apply EntP.k5 | apply EntP.k6 | apply DrawP.go | (apply AnyP.mk; kernel_rfl) | (refine AggP.go 2 rfl (by kernel_rfl) ?_) | (refine AggP.go 1 rfl (by kernel_rfl) ?_) | (refine AggP.go 3 rfl (by kernel_rfl) ?_) | (refine AggP.go 4 rfl (by kernel_rfl) ?_) | (refine AggP.go 5 rfl (by kernel_rfl) ?_) | (refine AggP.go 8 rfl (by kernel_rfl) ?_) | (refine AggP.go 11 rfl (by kernel_rfl) ?_) | apply CallP.own0 | apply CallP.own1 | apply CallP.own2 | apply CallP.own3 | apply CallP.nb | apply CutE.go0 | apply CutE.go7 | apply CutE.go6 | apply CutE.go5 | apply CutE.go4 | apply CutE.go3 | apply CutE.go2 | apply CutE.go1 | apply RoP.id | apply wrapS | (with_reducible exact lenNil) | apply Eq.refl)) | ((first | (with_reducible show rvEq _ _ _ _) | (with_reducible show svEq _ _ _ _) | (with_reducible show cellEq _ _ _ _) | (with_reducible show blkEq _ _ _)); conv => whnf))
    all_goals first | exact Nat.zero_le _ | rfl | trace_state
  intro i hi
  have hi : i ≤ l.length := hi
  have hin := leastG_in l i
  repeat' (first | (intro h; first | exact Bool.noConfusion h | (guard_hyp h : true = true; clear h) | (guard_hyp h : false = false; clear h) | (simp only [decide_eq_true_eq, decide_eq_false_iff_not, beq_iff_eq, beq_eq_false_iff_ne, bne_iff_ne, bne_eq_false_iff_eq, Bool.not_eq_true', Bool.not_eq_false', ne_eq, Classical.not_not, Bool.not_true, Bool.not_false, beqL_iff, beqL_ff, List.cons.injEq, and_true] at h) | skip) | ((conv => whnf) <;> (first | exact True.intro | apply br_rec | apply And.intro | refine CutE.at (A := Nat) (i + 1) ?_ | apply EntP.k0 | apply EntP.k1 | apply EntP.k2 | apply EntP.k3 | apply EntP.k4 | apply EntP.k5 | apply EntP.k6 | apply DrawP.go | (apply AnyP.mk; kernel_rfl) | (refine AggP.go 2 rfl (by kernel_rfl) ?_) | (refine AggP.go 1 rfl (by kernel_rfl) ?_) | (refine AggP.go 3 rfl (by kernel_rfl) ?_) | (refine AggP.go 4 rfl (by kernel_rfl) ?_) | (refine AggP.go 5 rfl (by kernel_rfl) ?_) | (refine AggP.go 8 rfl (by kernel_rfl) ?_) | (refine AggP.go 11 rfl (by kernel_rfl) ?_) | apply CallP.own0 | apply CallP.own1 | apply CallP.own2 | apply CallP.own3 | apply CallP.nb | apply CutE.go0 | apply CutE.go7 | apply CutE.go6 | apply CutE.go5 | apply CutE.go4 | apply CutE.go3 | apply CutE.go2 | apply CutE.go1 | apply RoP.id | apply wrapS | (with_reducible exact lenNil) | apply Eq.refl)) | ((first | (with_reducible show rvEq _ _ _ _) | (with_reducible show svEq _ _ _ _) | (with_reducible show cellEq _ _ _ _) | (with_reducible show blkEq _ _ _)); conv => whnf))
  all_goals try simp only [Int.toNat_natCast] at *
  all_goals first
    | omega
    | (show l.length - (i + 1) < l.length - i; omega)
    | (show i + 1 ≤ l.length; omega)
    | exact hok.at' i (by omega)
    | exact hok.at' _ (by omega)
    | exact leastG_yes (by assumption)
    | exact leastG_no (by assumption)
    | (rw [show i = l.length by omega]; done)
    | (rw [show l.length = i by omega]; done)
    | trace_state
end Go.Eng
