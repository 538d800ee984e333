/- The first of the least, of those that are asked for. -/
import Derived.Test.YtmjogckeaaaicaaWkA
set_option linter.unusedVariables false
set_option linter.unusedSimpArgs false
namespace Go.Eng
open Go Go.Proofs

abbrev flsS (l : List Nat) : Cell := slC 1 encF l
def firstG (ask : Nat → Bool) (l : List Nat) : Nat → Int
  | 0 => -1
  | i + 1 => if ask i = true ∧ (firstG ask l i < 0 ∨ lessF (l.getD i default) (l.getD (firstG ask l i).toNat default) = true) then (i : Int) else firstG ask l i
def firstF (ask : Nat → Bool) (l : List Nat) : Int := firstG ask l l.length
theorem firstG_in (ask : Nat → Bool) (l : List Nat) : ∀ i, -1 ≤ firstG ask l i ∧ firstG ask l i < i
  | 0 => by show (-1 : Int) ≤ -1 ∧ (-1 : Int) < 0; omega
  | i + 1 => by
    have := firstG_in ask l i
    unfold firstG
    split <;> omega
structure OkF (l : List Nat) : Prop where
  at' : ∀ i, i < l.length → l.getD i default < 2 ^ 64
theorem firstG_yes {ask : Nat → Bool} {l : List Nat} {i : Nat} (h : ask i = true) (h2 : firstG ask l i < 0 ∨ lessF (l.getD i default) (l.getD (firstG ask l i).toNat default) = true) : firstG ask l (i + 1) = i := by rw [firstG, if_pos ⟨h, h2⟩]
theorem firstG_no {ask : Nat → Bool} {l : List Nat} {i : Nat} (h : ask i = false) : firstG ask l (i + 1) = firstG ask l i := by rw [firstG, if_neg (fun q => by rw [h] at q; exact Bool.noConfusion q.1)]
theorem firstG_no2 {ask : Nat → Bool} {l : List Nat} {i : Nat} (h : ¬ firstG ask l i < 0) (h2 : lessF (l.getD i default) (l.getD (firstG ask l i).toNat default) = false) : firstG ask l (i + 1) = firstG ask l i := by
  rw [firstG, if_neg (fun q => q.2.elim h (fun q => by rw [h2] at q; exact Bool.noConfusion q))]
def sAsk1 : FSpec := spec Int (fun i => [.c (.i i)]) (fun _ => True) fun _ => .b true
set_option maxHeartbeats 4000000 in
set_option maxRecDepth 100000 in
theorem ask1_ok : Meets Try.prog 41 sAsk1 := by
  refine meets_plain (gok_nil _) rfl [] (fn := Try.f41) rfl rfl rfl (by decide) fun a _ => ?_
  repeat' (first | (intro h; first | exact Bool.noConfusion h | (guard_hyp h : true = true; clear h) | (guard_hyp h : false = false; clear h) | (simp only [decide_eq_true_eq, decide_eq_false_iff_not, beq_iff_eq, beq_eq_false_iff_ne, bne_iff_ne, bne_eq_false_iff_eq, Bool.not_eq_true', Bool.not_eq_false', ne_eq, Classical.not_not, Bool.not_true, Bool.not_false, beqL_iff, beqL_ff, List.cons.injEq, and_true] at h) | skip) | ((conv => whnf) <;> (first | exact True.intro | apply br_rec | apply And.intro | apply EntP.k0 | apply EntP.k1 | apply EntP.k2 | apply EntP.k3 | apply EntP.k4 | apply EntP.k5 | apply EntP.k6 | apply DrawP.go | (apply AnyP.mk; kernel_rfl) | (refine AggP.go 2 rfl (by kernel_rfl) ?_) | (refine AggP.go 1 rfl (by kernel_rfl) ?_) | (refine AggP.go 3 rfl (by kernel_rfl) ?_) | (refine AggP.go 4 rfl (by kernel_rfl) ?_) | (refine AggP.go 5 rfl (by kernel_rfl) ?_) | (refine AggP.go 8 rfl (by kernel_rfl) ?_) | (refine AggP.go 11 rfl (by kernel_rfl) ?_) | apply CallP.own0 | apply CallP.own1 | apply CallP.own2 | apply CallP.own3 | apply CallP.nb | apply CutE.go0 | apply CutE.go7 | apply CutE.go6 | apply CutE.go5 | apply CutE.go4 | apply CutE.go3 | apply CutE.go2 | apply CutE.go1 | apply RoP.id | apply wrapS | (with_reducible exact lenNil) | apply Eq.refl)) | ((first | (with_reducible show rvEq _ _ _ _) | (with_reducible show svEq _ _ _ _) | (with_reducible show cellEq _ _ _ _) | (with_reducible show blkEq _ _ _)); conv => whnf))
  all_goals trace_state
def sAsk2 : FSpec := lentSpec 1 (Int × List Nat) (fun (i, _) => [.c (.i i), .c (.ptr 0 0)]) (fun (_, ws) => [.row 22 [flsS ws]]) (fun (i, ws) => 0 ≤ i ∧ i < ws.length) (fun (i, ws) => .b (fGt (ws.getD i.toNat default) 0)) fun (_, ws) => [.row 22 [flsS ws]]
set_option maxHeartbeats 4000000 in
set_option maxRecDepth 100000 in
theorem ask2_ok : Meets Try.prog 39 sAsk2 := by
  refine meets_lent 1 (gok_nil _) rfl [] (fn := Try.f39) rfl rfl rfl (by decide) (fun _ => rfl) (fun _ => rfl) (by decide) fun ⟨i, ws⟩ hh => ?_
  have h1 : 0 ≤ i ∧ i < ws.length := hh
  clear hh
  repeat' (first | (intro h; first | exact Bool.noConfusion h | (guard_hyp h : true = true; clear h) | (guard_hyp h : false = false; clear h) | (simp only [decide_eq_true_eq, decide_eq_false_iff_not, beq_iff_eq, beq_eq_false_iff_ne, bne_iff_ne, bne_eq_false_iff_eq, Bool.not_eq_true', Bool.not_eq_false', ne_eq, Classical.not_not, Bool.not_true, Bool.not_false, beqL_iff, beqL_ff, List.cons.injEq, and_true] at h) | skip) | ((conv => whnf) <;> (first | exact True.intro | apply br_rec | apply And.intro | apply EntP.k0 | apply EntP.k1 | apply EntP.k2 | apply EntP.k3 | apply EntP.k4 | apply EntP.k5 | apply EntP.k6 | apply DrawP.go | (apply AnyP.mk; kernel_rfl) | (refine AggP.go 2 rfl (by kernel_rfl) ?_) | (refine AggP.go 1 rfl (by kernel_rfl) ?_) | (refine AggP.go 3 rfl (by kernel_rfl) ?_) | (refine AggP.go 4 rfl (by kernel_rfl) ?_) | (refine AggP.go 5 rfl (by kernel_rfl) ?_) | (refine AggP.go 8 rfl (by kernel_rfl) ?_) | (refine AggP.go 11 rfl (by kernel_rfl) ?_) | apply CallP.own0 | apply CallP.own1 | apply CallP.own2 | apply CallP.own3 | apply CallP.nb | apply CutE.go0 | apply CutE.go7 | apply CutE.go6 | apply CutE.go5 | apply CutE.go4 | apply CutE.go3 | apply CutE.go2 | apply CutE.go1 | apply RoP.id | apply wrapS | (with_reducible exact lenNil) | apply Eq.refl)) | ((first | (with_reducible show rvEq _ _ _ _) | (with_reducible show svEq _ _ _ _) | (with_reducible show cellEq _ _ _ _) | (with_reducible show blkEq _ _ _)); conv => whnf))
  all_goals first
    | exact h1.1
    | exact h1.2
    | rfl
    | trace_state
def sFirstA : FSpec := spec (List Nat) (fun l => [.c (flsS l), .c (.fn 41 [])]) (fun l => OkF l ∧ l.length ≤ 1000) fun l => .i (firstF (fun _ => true) l)
def Wk2 : List (Nat × FSpec) := [(15, sLess), (41, sAsk1), (39, sAsk2)]
theorem Wk2_ok : GOK Try.prog (tab Wk2) := gok_cons less_ok (gok_cons ask1_ok (gok_cons ask2_ok (gok_nil _)))
set_option maxHeartbeats 4000000 in
set_option maxRecDepth 100000 in
theorem firstA_ok : Meets Try.prog 40 sFirstA := by
  refine meets_plain Wk2_ok rfl [] (fn := Try.f40) rfl rfl rfl (by decide) fun l hh => ?_
  have hok : OkF l := hh.1
  have hlen : l.length ≤ 1000 := hh.2
  clear hh
  repeat' (first | (intro h; first | exact Bool.noConfusion h | (guard_hyp h : true = true; clear h) | (guard_hyp h : false = false; clear h) | (simp only [decide_eq_true_eq, decide_eq_false_iff_not, beq_iff_eq, beq_eq_false_iff_ne, bne_iff_ne, bne_eq_false_iff_eq, Bool.not_eq_true', Bool.not_eq_false', ne_eq, Classical.not_not, Bool.not_true, Bool.not_false, beqL_iff, beqL_ff, List.cons.injEq, and_true] at h) | skip) | ((conv => whnf) <;> (first | exact True.intro | apply br_rec | apply And.intro | apply EntP.k0 | apply EntP.k1 | apply EntP.k2 | apply EntP.k3 | apply EntP.k4 | apply EntP.k5 | apply EntP.k6 | apply DrawP.go | (apply AnyP.mk; kernel_rfl) | (refine AggP.go 2 rfl (by kernel_rfl) ?_) | (refine AggP.go 1 rfl (by kernel_rfl) ?_) | (refine AggP.go 3 rfl (by kernel_rfl) ?_) | (refine AggP.go 4 rfl (by kernel_rfl) ?_) | (refine AggP.go 5 rfl (by kernel_rfl) ?_) | (refine AggP.go 8 rfl (by kernel_rfl) ?_) | (refine AggP.go 11 rfl (by kernel_rfl) ?_) | apply CallP.own0 | apply CallP.own1 | apply CallP.own2 | apply CallP.own3 | apply CallP.nb | apply CutE.go0 | apply CutE.go7 | apply CutE.go6 | apply CutE.go5 | apply CutE.go4 | apply CutE.go3 | apply CutE.go2 | apply CutE.go1 | apply RoP.id | apply wrapS | (with_reducible exact lenNil) | apply Eq.refl)) | ((first | (with_reducible show rvEq _ _ _ _) | (with_reducible show svEq _ _ _ _) | (with_reducible show cellEq _ _ _ _) | (with_reducible show blkEq _ _ _)); conv => whnf))
  apply LoopP.up (G := Nat) (fun i => i ≤ l.length) [0, 1, 5, 8, 9, 10] (fun i => [(10, .i i), (5, .i (firstG (fun _ => true) l i))]) (fun _ => []) 0 (fun i => l.length - i)
  apply And.intro
  · refine CutE.at 0 ?_
    repeat' (first | (intro h; first | exact Bool.noConfusion h | (guard_hyp h : true = true; clear h) | (guard_hyp h : false = false; clear h) | (simp only [decide_eq_true_eq, decide_eq_false_iff_not, beq_iff_eq, beq_eq_false_iff_ne, bne_iff_ne, bne_eq_false_iff_eq, Bool.not_eq_true', Bool.not_eq_false', ne_eq, Classical.not_not, Bool.not_true, Bool.not_false, beqL_iff, beqL_ff, List.cons.injEq, and_true] at h) | skip) | ((conv => whnf) <;> (first | exact True.intro | apply br_rec | apply And.intro | apply EntP.k0 | apply EntP.k1 | apply EntP.k2 | apply EntP.k3 | apply EntP.k4 | apply EntP.k5 | apply EntP.k6 | apply DrawP.go | (apply AnyP.mk; kernel_rfl) | (refine AggP.go 2 rfl (by kernel_rfl) ?_) | (refine AggP.go 1 rfl (by kernel_rfl) ?_) | (refine AggP.go 3 rfl (by kernel_rfl) ?_) | (refine AggP.go 4 rfl (by kernel_rfl) ?_) | (refine AggP.go 5 rfl (by kernel_rfl) ?_) | (refine AggP.go 8 rfl (by kernel_rfl) ?_) | (refine AggP.go 11 rfl (by kernel_rfl) ?_) | apply CallP.own0 | apply CallP.own1 | apply CallP.own2 | apply CallP.own3 | apply CallP.nb | apply CutE.go0 | apply CutE.go7 | apply CutE.go6 | apply CutE.go5 | apply CutE.go4 | apply CutE.go3 | apply CutE.go2 | apply CutE.go1 | apply RoP.id | apply wrapS | (with_reducible exact lenNil) | apply Eq.refl)) | ((first | (with_reducible show rvEq _ _ _ _) | (with_reducible show svEq _ _ _ _) | (with_reducible show cellEq _ _ _ _) | (with_reducible show blkEq _ _ _)); conv => whnf))
    all_goals first | exact Nat.zero_le _ | rfl | trace_state
  intro i hi
  have hi : i ≤ l.length := hi
  have hin := firstG_in (fun _ => true) l i
  repeat' (first | (intro h; first | exact Bool.noConfusion h | (guard_hyp h : true = true; clear h) | (guard_hyp h : false = false; clear h) | (simp only [decide_eq_true_eq, decide_eq_false_iff_not, beq_iff_eq, beq_eq_false_iff_ne, bne_iff_ne, bne_eq_false_iff_eq, Bool.not_eq_true', Bool.not_eq_false', ne_eq, Classical.not_not, Bool.not_true, Bool.not_false, beqL_iff, beqL_ff, List.cons.injEq, and_true] at h) | skip) | ((conv => whnf) <;> (first | exact True.intro | apply br_rec | apply And.intro | refine CutE.at (A := Nat) (i + 1) ?_ | apply EntP.k0 | apply EntP.k1 | apply EntP.k2 | apply EntP.k3 | apply EntP.k4 | apply EntP.k5 | apply EntP.k6 | apply DrawP.go | (apply AnyP.mk; kernel_rfl) | (refine AggP.go 2 rfl (by kernel_rfl) ?_) | (refine AggP.go 1 rfl (by kernel_rfl) ?_) | (refine AggP.go 3 rfl (by kernel_rfl) ?_) | (refine AggP.go 4 rfl (by kernel_rfl) ?_) | (refine AggP.go 5 rfl (by kernel_rfl) ?_) | (refine AggP.go 8 rfl (by kernel_rfl) ?_) | (refine AggP.go 11 rfl (by kernel_rfl) ?_) | apply CallP.own0 | apply CallP.own1 | apply CallP.own2 | apply CallP.own3 | apply CallP.nb | apply CutE.go0 | apply CutE.go7 | apply CutE.go6 | apply CutE.go5 | apply CutE.go4 | apply CutE.go3 | apply CutE.go2 | apply CutE.go1 | apply RoP.id | apply wrapS | (with_reducible exact lenNil) | apply Eq.refl)) | ((first | (with_reducible show rvEq _ _ _ _) | (with_reducible show svEq _ _ _ _) | (with_reducible show cellEq _ _ _ _) | (with_reducible show blkEq _ _ _)); conv => whnf))
  all_goals try simp only [Int.toNat_natCast] at *
  all_goals first
    | omega
    | (show l.length - (i + 1) < l.length - i; omega)
    | (show i + 1 ≤ l.length; omega)
    | exact hok.at' i (by omega)
    | exact hok.at' _ (by omega)
    | exact firstG_yes (by first | rfl | assumption) (.inl (by assumption))
    | exact firstG_yes (by first | rfl | assumption) (.inr (by assumption))
    | exact firstG_no2 (by assumption) (by assumption)
    | exact firstG_no (by assumption)
    | (rw [show i = l.length by omega]; rfl)
    | (show firstG _ l l.length = _; rw [show l.length = i by omega])
    | trace_state
def sFirstB : FSpec := lentSpec 2 (List Nat × List Nat) (fun _ => [.c (.osl 0), .c (.fn 39 [.ptr 1 0])]) (fun (l, ws) => [.slc 29 1 l.length (slG encF l), .row 22 [flsS ws]]) (fun (l, ws) => OkF l ∧ l.length ≤ 1000 ∧ l.length = ws.length) (fun (l, ws) => .i (firstF (fun i => fGt (ws.getD i default) 0) l)) fun (l, ws) => [.slc 29 1 l.length (slG encF l), .row 22 [flsS ws]]
set_option maxHeartbeats 4000000 in
set_option maxRecDepth 100000 in
theorem firstB_ok : Meets Try.prog 40 sFirstB := by
  refine meets_lent 2 Wk2_ok rfl [] (fn := Try.f40) rfl rfl rfl (by decide) (fun _ => rfl) (fun _ => rfl) (by decide) fun ⟨l, ws⟩ hh => ?_
  have hok : OkF l := hh.1
  have hlen : l.length ≤ 1000 := hh.2.1
  have hws : l.length = ws.length := hh.2.2
  clear hh
  repeat' (first | (intro h; first | exact Bool.noConfusion h | (guard_hyp h : true = true; clear h) | (guard_hyp h : false = false; clear h) | (simp only [decide_eq_true_eq, decide_eq_false_iff_not, beq_iff_eq, beq_eq_false_iff_ne, bne_iff_ne, bne_eq_false_iff_eq, Bool.not_eq_true', Bool.not_eq_false', ne_eq, Classical.not_not, Bool.not_true, Bool.not_false, beqL_iff, beqL_ff, List.cons.injEq, and_true] at h) | skip) | ((conv => whnf) <;> (first | exact True.intro | apply br_rec | apply And.intro | apply EntP.k0 | apply EntP.k1 | apply EntP.k2 | apply EntP.k3 | apply EntP.k4 | apply EntP.k5 | apply EntP.k6 | apply DrawP.go | (apply AnyP.mk; kernel_rfl) | (refine AggP.go 2 rfl (by kernel_rfl) ?_) | (refine AggP.go 1 rfl (by kernel_rfl) ?_) | (refine AggP.go 3 rfl (by kernel_rfl) ?_) | (refine AggP.go 4 rfl (by kernel_rfl) ?_) | (refine AggP.go 5 rfl (by kernel_rfl) ?_) | (refine AggP.go 8 rfl (by kernel_rfl) ?_) | (refine AggP.go 11 rfl (by kernel_rfl) ?_) | apply CallP.own0 | apply CallP.own1 | apply CallP.own2 | apply CallP.own3 | apply CallP.nb | apply CutE.go0 | apply CutE.go7 | apply CutE.go6 | apply CutE.go5 | apply CutE.go4 | apply CutE.go3 | apply CutE.go2 | apply CutE.go1 | apply RoP.id | apply wrapS | (with_reducible exact lenNil) | apply Eq.refl)) | ((first | (with_reducible show rvEq _ _ _ _) | (with_reducible show svEq _ _ _ _) | (with_reducible show cellEq _ _ _ _) | (with_reducible show blkEq _ _ _)); conv => whnf))
  apply LoopP.up (G := Nat) (fun i => i ≤ l.length) [0, 1, 5, 8, 9, 10] (fun i => [(10, .i i), (5, .i (firstG (fun i => fGt (ws.getD i default) 0) l i))]) (fun _ => []) 2 (fun i => l.length - i)
  apply And.intro
  · refine CutE.at 0 ?_
    repeat' (first | (intro h; first | exact Bool.noConfusion h | (guard_hyp h : true = true; clear h) | (guard_hyp h : false = false; clear h) | (simp only [decide_eq_true_eq, decide_eq_false_iff_not, beq_iff_eq, beq_eq_false_iff_ne, bne_iff_ne, bne_eq_false_iff_eq, Bool.not_eq_true', Bool.not_eq_false', ne_eq, Classical.not_not, Bool.not_true, Bool.not_false, beqL_iff, beqL_ff, List.cons.injEq, and_true] at h) | skip) | ((conv => whnf) <;> (first | exact True.intro | apply br_rec | apply And.intro | apply EntP.k0 | apply EntP.k1 | apply EntP.k2 | apply EntP.k3 | apply EntP.k4 | apply EntP.k5 | apply EntP.k6 | apply DrawP.go | (apply AnyP.mk; kernel_rfl) | (refine AggP.go 2 rfl (by kernel_rfl) ?_) | (refine AggP.go 1 rfl (by kernel_rfl) ?_) | (refine AggP.go 3 rfl (by kernel_rfl) ?_) | (refine AggP.go 4 rfl (by kernel_rfl) ?_) | (refine AggP.go 5 rfl (by kernel_rfl) ?_) | (refine AggP.go 8 rfl (by kernel_rfl) ?_) | (refine AggP.go 11 rfl (by kernel_rfl) ?_) | apply CallP.own0 | apply CallP.own1 | apply CallP.own2 | apply CallP.own3 | apply CallP.nb | apply CutE.go0 | apply CutE.go7 | apply CutE.go6 | apply CutE.go5 | apply CutE.go4 | apply CutE.go3 | apply CutE.go2 | apply CutE.go1 | apply RoP.id | apply wrapS | (with_reducible exact lenNil) | apply Eq.refl)) | ((first | (with_reducible show rvEq _ _ _ _) | (with_reducible show svEq _ _ _ _) | (with_reducible show cellEq _ _ _ _) | (with_reducible show blkEq _ _ _)); conv => whnf))
    all_goals first | exact Nat.zero_le _ | rfl | trace_state
  intro i hi
  have hi : i ≤ l.length := hi
  have hin := firstG_in (fun i => fGt (ws.getD i default) 0) l i
  repeat' (first | (intro h; first | exact Bool.noConfusion h | (guard_hyp h : true = true; clear h) | (guard_hyp h : false = false; clear h) | (simp only [decide_eq_true_eq, decide_eq_false_iff_not, beq_iff_eq, beq_eq_false_iff_ne, bne_iff_ne, bne_eq_false_iff_eq, Bool.not_eq_true', Bool.not_eq_false', ne_eq, Classical.not_not, Bool.not_true, Bool.not_false, beqL_iff, beqL_ff, List.cons.injEq, and_true] at h) | skip) | ((conv => whnf) <;> (first | exact True.intro | apply br_rec | apply And.intro | refine CutE.at (A := Nat) (i + 1) ?_ | refine CutE.at (A := OwnG 1 (Int × List Nat)) ⟨((i : Int), ws)⟩ ?_ | apply EntP.k0 | apply EntP.k1 | apply EntP.k2 | apply EntP.k3 | apply EntP.k4 | apply EntP.k5 | apply EntP.k6 | apply DrawP.go | (apply AnyP.mk; kernel_rfl) | (refine AggP.go 2 rfl (by kernel_rfl) ?_) | (refine AggP.go 1 rfl (by kernel_rfl) ?_) | (refine AggP.go 3 rfl (by kernel_rfl) ?_) | (refine AggP.go 4 rfl (by kernel_rfl) ?_) | (refine AggP.go 5 rfl (by kernel_rfl) ?_) | (refine AggP.go 8 rfl (by kernel_rfl) ?_) | (refine AggP.go 11 rfl (by kernel_rfl) ?_) | apply CallP.own0 | apply CallP.own1 | apply CallP.own2 | apply CallP.own3 | apply CallP.nb | apply CutE.go0 | apply CutE.go7 | apply CutE.go6 | apply CutE.go5 | apply CutE.go4 | apply CutE.go3 | apply CutE.go2 | apply CutE.go1 | apply RoP.id | apply wrapS | (with_reducible exact lenNil) | apply Eq.refl)) | ((first | (with_reducible show rvEq _ _ _ _) | (with_reducible show svEq _ _ _ _) | (with_reducible show cellEq _ _ _ _) | (with_reducible show blkEq _ _ _)); conv => whnf))
  all_goals try simp only [Int.toNat_natCast] at *
  all_goals first
    | omega
    | (show l.length - (i + 1) < l.length - i; omega)
    | (show i + 1 ≤ l.length; omega)
    | exact hok.at' i (by omega)
    | exact hok.at' _ (by omega)
    | exact firstG_yes (by first | rfl | assumption) (.inl (by assumption))
    | exact firstG_yes (by first | rfl | assumption) (.inr (by assumption))
    | exact firstG_no2 (by assumption) (by assumption)
    | exact firstG_no (by assumption)
    | (rw [show i = l.length by omega]; rfl)
    | (show firstG _ l l.length = _; rw [show l.length = i by omega])
    | trace_state
theorem first_ok : Meets Try.prog 40 (sFirstA.or sFirstB) := meets_or firstA_ok firstB_ok
def sLeast : FSpec := spec (List Nat) (fun l => [.c (flsS l)]) (fun l => OkF l ∧ l.length ≤ 1000) fun l => .tup [.c (.i (if l.length = 0 then 0 else firstF (fun _ => true) l)), .c (.i (if l.length = 0 then 8 else 0))]
def Wk3 : List (Nat × FSpec) := (40, sFirstA.or sFirstB) :: Wk2
theorem Wk3_ok : GOK Try.prog (tab Wk3) := gok_cons first_ok Wk2_ok
theorem firstA_pos {l : List Nat} (i : Nat) : 0 ≤ firstG (fun _ => true) l (i + 1) := by
  have := firstG_in (fun _ => true) l i
  unfold firstG
  split
  · omega
  · rename_i h
    by_cases e : firstG (fun _ => true) l i < 0
    · exact absurd ⟨rfl, .inl e⟩ h
    · omega
set_option maxHeartbeats 4000000 in
set_option maxRecDepth 100000 in
theorem least_ok : Meets Try.prog 14 sLeast := by
  refine meets_plain Wk3_ok rfl [] (fn := Try.f14) rfl rfl rfl (by decide) fun l hh => ?_
  have hok : OkF l ∧ l.length ≤ 1000 := hh
  clear hh
  have h0 : l.length = 0 → firstF (fun _ => true) l = -1 := fun h => by unfold firstF; rw [h]; rfl
  have h1 : ¬ l.length = 0 → 0 ≤ firstF (fun _ => true) l := fun h => by
    unfold firstF
    rw [show l.length = (l.length - 1) + 1 by omega]
    exact firstA_pos _
  repeat' (first | (intro h; first | exact Bool.noConfusion h | (guard_hyp h : true = true; clear h) | (guard_hyp h : false = false; clear h) | (simp only [decide_eq_true_eq, decide_eq_false_iff_not, beq_iff_eq, beq_eq_false_iff_ne, bne_iff_ne, bne_eq_false_iff_eq, Bool.not_eq_true', Bool.not_eq_false', ne_eq, Classical.not_not, Bool.not_true, Bool.not_false, beqL_iff, beqL_ff, List.cons.injEq, and_true] at h) | skip) | ((conv => whnf) <;> (first | exact True.intro | apply br_rec | apply And.intro | apply CallP.inl | apply EntP.k0 | apply EntP.k1 | apply EntP.k2 | apply EntP.k3 | apply EntP.k4 | apply EntP.k5 | apply EntP.k6 | apply DrawP.go | (apply AnyP.mk; kernel_rfl) | (refine AggP.go 2 rfl (by kernel_rfl) ?_) | (refine AggP.go 1 rfl (by kernel_rfl) ?_) | (refine AggP.go 3 rfl (by kernel_rfl) ?_) | (refine AggP.go 4 rfl (by kernel_rfl) ?_) | (refine AggP.go 5 rfl (by kernel_rfl) ?_) | (refine AggP.go 8 rfl (by kernel_rfl) ?_) | (refine AggP.go 11 rfl (by kernel_rfl) ?_) | apply CallP.own0 | apply CallP.own1 | apply CallP.own2 | apply CallP.own3 | apply CallP.nb | apply CutE.go0 | apply CutE.go7 | apply CutE.go6 | apply CutE.go5 | apply CutE.go4 | apply CutE.go3 | apply CutE.go2 | apply CutE.go1 | apply RoP.id | apply wrapS | (with_reducible exact lenNil) | apply Eq.refl)) | ((first | (with_reducible show rvEq _ _ _ _) | (with_reducible show svEq _ _ _ _) | (with_reducible show cellEq _ _ _ _) | (with_reducible show blkEq _ _ _)); conv => whnf))
  all_goals first
    | exact hok.1
    | exact hok.2
    | ((by_cases e : l.length = 0 <;> first | rw [if_pos e] | rw [if_neg e]) <;> first | done | (exfalso; have := h0 e; omega) | (exfalso; have := h1 e; omega))
    | trace_state
end Go.Eng
