/- Instructions that need no memory: the reference's small functions. -/
import Derived.Test.YtgjdbpleoegejaaLoB
set_option linter.unusedVariables false
set_option linter.unusedSimpArgs false
namespace Go.Eng
open Go Go.Proofs

def rdyF (t : Th) : Bool := decide (t.st = 0 ∧ t.lf.length = 0)
def locF (op : Int) : Bool := decide (1 ≤ op ∧ op ≤ 15)
def regsF (op : Int) : Int := if op = 10 ∨ op = 13 ∨ op = 14 then 0 else if op = 1 ∨ op = 11 ∨ op = 12 ∨ op = 15 then 1 else if op = 2 ∨ op = 3 ∨ op = 4 then 2 else 3
def jumpF (op : Int) : Int := if op = 10 ∨ op = 13 then 0 else if op = 11 ∨ op = 12 then 1 else -1
theorem regsF_le (op : Int) : 0 ≤ regsF op ∧ regsF op ≤ 3 := by
  unfold regsF
  split
  · omega
  · split
    · omega
    · split <;> omega
theorem jumpF_le (op : Int) : jumpF op < 0 ∨ 0 ≤ jumpF op ∧ jumpF op < 3 := by
  unfold jumpF
  split
  · omega
  · split <;> omega
theorem inF_t {n lo hi : Int} (h : lo ≤ n ∧ n ≤ hi) : inF n lo hi = true := decide_eq_true h
theorem inF_f {n lo hi : Int} (h : ¬ (lo ≤ n ∧ n ≤ hi)) : inF n lo hi = false := decide_eq_false h
def sRdy : FSpec := spec Th (fun t => [.agg (thC t)]) (fun _ => True) fun t => .b (rdyF t)
def sLoc : FSpec := spec Int (fun op => [.i op]) (fun _ => True) fun op => .b (locF op)
def sRegs : FSpec := spec Int (fun op => [.i op]) (fun _ => True) fun op => .i (regsF op)
def sJumps : FSpec := spec Int (fun op => [.i op]) (fun _ => True) fun op => .i (jumpF op)
set_option maxHeartbeats 4000000 in
set_option maxRecDepth 100000 in
theorem rdy_ok : Meets Try.prog 22 sRdy := by
  refine meets_plain (gok_nil _) rfl [] (fn := Try.f22) rfl rfl rfl (by decide) fun ⟨pc, r0, r1, r2, r3, r4, r5, r6, r7, fs, st, fa, lf⟩ _ => ?_
  repeat' (first | (intro h; first | exact Bool.noConfusion h | (guard_hyp h : true = true; clear h) | (guard_hyp h : false = false; clear h) | (simp only [decide_eq_true_eq, decide_eq_false_iff_not, beq_iff_eq, beq_eq_false_iff_ne, bne_iff_ne, bne_eq_false_iff_eq, Bool.not_eq_true', Bool.not_eq_false', ne_eq, Classical.not_not, Bool.not_true, Bool.not_false, beqL_iff, beqL_ff, List.cons.injEq, and_true] at h) | skip) | ((conv => whnf) <;> (first | exact True.intro | apply br_rec | apply And.intro | apply EntP.k0 | apply EntP.k1 | apply EntP.k2 | apply EntP.k3 | apply EntP.k4 | apply EntP.k5 | apply EntP.k6 | apply DrawP.go | (apply AnyP.mk; kernel_rfl) | (refine AggP.go 2 rfl (by kernel_rfl) ?_) | (refine AggP.go 1 rfl (by kernel_rfl) ?_) | (refine AggP.go 3 rfl (by kernel_rfl) ?_) | (refine AggP.go 4 rfl (by kernel_rfl) ?_) | (refine AggP.go 5 rfl (by kernel_rfl) ?_) | (refine AggP.go 8 rfl (by kernel_rfl) ?_) | (refine AggP.go 11 rfl (by kernel_rfl) ?_) | apply CallP.own0 | apply CallP.own1 | apply CallP.own2 | apply CallP.own3 | apply CallP.nb | apply CutE.go0 | apply CutE.go7 | apply CutE.go6 | apply CutE.go5 | apply CutE.go4 | apply CutE.go3 | apply CutE.go2 | apply CutE.go1 | apply RoP.id | apply wrapS | (with_reducible exact lenNil) | apply Eq.refl)) | ((first | (with_reducible show rvEq _ _ _ _) | (with_reducible show svEq _ _ _ _) | (with_reducible show cellEq _ _ _ _) | (with_reducible show blkEq _ _ _)); conv => whnf))
  all_goals first
    | (show decide (st = 0 ∧ lf.length = 0) = false; apply decide_eq_false; omega)
    | (show decide (st = 0 ∧ lf.length = 0) = _; rw [Bool.eq_iff_iff]; simp only [beq_iff_eq, decide_eq_true_eq]; omega)
    | trace_state
set_option maxHeartbeats 4000000 in
set_option maxRecDepth 100000 in
theorem loc_ok : Meets Try.prog 23 sLoc := by
  refine meets_plain (gok_nil _) rfl [] (fn := Try.f23) rfl rfl rfl (by decide) fun op _ => ?_
  repeat' (first | (intro h; first | exact Bool.noConfusion h | (guard_hyp h : true = true; clear h) | (guard_hyp h : false = false; clear h) | (simp only [decide_eq_true_eq, decide_eq_false_iff_not, beq_iff_eq, beq_eq_false_iff_ne, bne_iff_ne, bne_eq_false_iff_eq, Bool.not_eq_true', Bool.not_eq_false', ne_eq, Classical.not_not, Bool.not_true, Bool.not_false, beqL_iff, beqL_ff, List.cons.injEq, and_true] at h) | skip) | ((conv => whnf) <;> (first | exact True.intro | apply br_rec | apply And.intro | apply EntP.k0 | apply EntP.k1 | apply EntP.k2 | apply EntP.k3 | apply EntP.k4 | apply EntP.k5 | apply EntP.k6 | apply DrawP.go | (apply AnyP.mk; kernel_rfl) | (refine AggP.go 2 rfl (by kernel_rfl) ?_) | (refine AggP.go 1 rfl (by kernel_rfl) ?_) | (refine AggP.go 3 rfl (by kernel_rfl) ?_) | (refine AggP.go 4 rfl (by kernel_rfl) ?_) | (refine AggP.go 5 rfl (by kernel_rfl) ?_) | (refine AggP.go 8 rfl (by kernel_rfl) ?_) | (refine AggP.go 11 rfl (by kernel_rfl) ?_) | apply CallP.own0 | apply CallP.own1 | apply CallP.own2 | apply CallP.own3 | apply CallP.nb | apply CutE.go0 | apply CutE.go7 | apply CutE.go6 | apply CutE.go5 | apply CutE.go4 | apply CutE.go3 | apply CutE.go2 | apply CutE.go1 | apply RoP.id | apply wrapS | (with_reducible exact lenNil) | apply Eq.refl)) | ((first | (with_reducible show rvEq _ _ _ _) | (with_reducible show svEq _ _ _ _) | (with_reducible show cellEq _ _ _ _) | (with_reducible show blkEq _ _ _)); conv => whnf))
  all_goals first
    | (show locF op = _; simp only [locF]; (first | (apply decide_eq_false; omega) | (apply decide_eq_true; omega) | (congr 1; apply propext; omega)))
    | trace_state
set_option maxHeartbeats 4000000 in
set_option maxRecDepth 100000 in
theorem regs_ok : Meets Try.prog 41 sRegs := by
  refine meets_plain (gok_nil _) rfl [] (fn := Try.f41) rfl rfl rfl (by decide) fun op _ => ?_
  repeat' (first | (intro h; first | exact Bool.noConfusion h | (guard_hyp h : true = true; clear h) | (guard_hyp h : false = false; clear h) | (simp only [decide_eq_true_eq, decide_eq_false_iff_not, beq_iff_eq, beq_eq_false_iff_ne, bne_iff_ne, bne_eq_false_iff_eq, Bool.not_eq_true', Bool.not_eq_false', ne_eq, Classical.not_not, Bool.not_true, Bool.not_false, beqL_iff, beqL_ff, List.cons.injEq, and_true] at h) | skip) | ((conv => whnf) <;> (first | exact True.intro | apply br_rec | apply And.intro | apply EntP.k0 | apply EntP.k1 | apply EntP.k2 | apply EntP.k3 | apply EntP.k4 | apply EntP.k5 | apply EntP.k6 | apply DrawP.go | (apply AnyP.mk; kernel_rfl) | (refine AggP.go 2 rfl (by kernel_rfl) ?_) | (refine AggP.go 1 rfl (by kernel_rfl) ?_) | (refine AggP.go 3 rfl (by kernel_rfl) ?_) | (refine AggP.go 4 rfl (by kernel_rfl) ?_) | (refine AggP.go 5 rfl (by kernel_rfl) ?_) | (refine AggP.go 8 rfl (by kernel_rfl) ?_) | (refine AggP.go 11 rfl (by kernel_rfl) ?_) | apply CallP.own0 | apply CallP.own1 | apply CallP.own2 | apply CallP.own3 | apply CallP.nb | apply CutE.go0 | apply CutE.go7 | apply CutE.go6 | apply CutE.go5 | apply CutE.go4 | apply CutE.go3 | apply CutE.go2 | apply CutE.go1 | apply RoP.id | apply wrapS | (with_reducible exact lenNil) | apply Eq.refl)) | ((first | (with_reducible show rvEq _ _ _ _) | (with_reducible show svEq _ _ _ _) | (with_reducible show cellEq _ _ _ _) | (with_reducible show blkEq _ _ _)); conv => whnf))
  all_goals first
    | (rw [regsF, if_pos (by omega)]; done)
    | (rw [regsF, if_neg (by omega), if_pos (by omega)]; done)
    | (rw [regsF, if_neg (by omega), if_neg (by omega), if_pos (by omega)]; done)
    | (rw [regsF, if_neg (by omega), if_neg (by omega), if_neg (by omega)]; done)
    | trace_state
set_option maxHeartbeats 4000000 in
set_option maxRecDepth 100000 in
theorem jumps_ok : Meets Try.prog 42 sJumps := by
  refine meets_plain (gok_nil _) rfl [] (fn := Try.f42) rfl rfl rfl (by decide) fun op _ => ?_
  repeat' (first | (intro h; first | exact Bool.noConfusion h | (guard_hyp h : true = true; clear h) | (guard_hyp h : false = false; clear h) | (simp only [decide_eq_true_eq, decide_eq_false_iff_not, beq_iff_eq, beq_eq_false_iff_ne, bne_iff_ne, bne_eq_false_iff_eq, Bool.not_eq_true', Bool.not_eq_false', ne_eq, Classical.not_not, Bool.not_true, Bool.not_false, beqL_iff, beqL_ff, List.cons.injEq, and_true] at h) | skip) | ((conv => whnf) <;> (first | exact True.intro | apply br_rec | apply And.intro | apply EntP.k0 | apply EntP.k1 | apply EntP.k2 | apply EntP.k3 | apply EntP.k4 | apply EntP.k5 | apply EntP.k6 | apply DrawP.go | (apply AnyP.mk; kernel_rfl) | (refine AggP.go 2 rfl (by kernel_rfl) ?_) | (refine AggP.go 1 rfl (by kernel_rfl) ?_) | (refine AggP.go 3 rfl (by kernel_rfl) ?_) | (refine AggP.go 4 rfl (by kernel_rfl) ?_) | (refine AggP.go 5 rfl (by kernel_rfl) ?_) | (refine AggP.go 8 rfl (by kernel_rfl) ?_) | (refine AggP.go 11 rfl (by kernel_rfl) ?_) | apply CallP.own0 | apply CallP.own1 | apply CallP.own2 | apply CallP.own3 | apply CallP.nb | apply CutE.go0 | apply CutE.go7 | apply CutE.go6 | apply CutE.go5 | apply CutE.go4 | apply CutE.go3 | apply CutE.go2 | apply CutE.go1 | apply RoP.id | apply wrapS | (with_reducible exact lenNil) | apply Eq.refl)) | ((first | (with_reducible show rvEq _ _ _ _) | (with_reducible show svEq _ _ _ _) | (with_reducible show cellEq _ _ _ _) | (with_reducible show blkEq _ _ _)); conv => whnf))
  all_goals first
    | (rw [jumpF, if_pos (by omega)]; done)
    | (rw [jumpF, if_neg (by omega), if_pos (by omega)]; done)
    | (rw [jumpF, if_neg (by omega), if_neg (by omega)]; done)
    | trace_state
/-- May an instruction be? -/
def mayI (op a b c : Int) : Bool := ((List.range (regsF op).toNat).all fun k => inF ([a, b, c].getD k 0) 0 7) && (decide (jumpF op < 0) || inF ([a, b, c].getD (jumpF op).toNat 0) 0 1000)
def sMayI : FSpec := spec (Int × Int × Int × Int) (fun (op, a, b, c) => [.agg [.i op, .i a, .i b, .i c]]) (fun _ => True) fun (op, a, b, c) => .b (mayI op a b c)
theorem mayI_no {op a b c : Int} {k : Nat} (hk : (k : Int) < regsF op) (h : inF ([a, b, c].getD k 0) 0 7 = false) : mayI op a b c = false := by
  have : ((List.range (regsF op).toNat).all fun k => inF ([a, b, c].getD k 0) 0 7) = false := by
    rw [List.all_eq_false]
    exact ⟨k, List.mem_range.2 (by omega), by simpa using h⟩
  rw [mayI, this]; rfl
theorem mayI_yes {op a b c : Int} {k : Nat} (hk : ¬ (k : Int) < regsF op) (h : Up k fun i => inF ([a, b, c].getD i 0) 0 7 = true) : mayI op a b c = (decide (jumpF op < 0) || inF ([a, b, c].getD (jumpF op).toNat 0) 0 1000) := by
  have : ((List.range (regsF op).toNat).all fun k => inF ([a, b, c].getD k 0) 0 7) = true := by
    rw [List.all_eq_true]
    intro i hi
    have := List.mem_range.1 hi
    exact h.get i (by omega)
  rw [mayI, this]; rfl
def L2 : List (Nat × FSpec) := [(41, sRegs), (42, sJumps)]
theorem L2_ok : GOK Try.prog (tab L2) := gok_cons regs_ok (gok_cons jumps_ok (gok_nil _))
set_option maxHeartbeats 4000000 in
set_option maxRecDepth 100000 in
theorem mayI_ok : Meets Try.prog 24 sMayI := by
  refine meets_plain L2_ok rfl [] (fn := Try.f24) rfl rfl rfl (by decide) fun ⟨op, a, b, c⟩ _ => ?_
  have hr := regsF_le op
  repeat' (first | (intro h; first | exact Bool.noConfusion h | (guard_hyp h : true = true; clear h) | (guard_hyp h : false = false; clear h) | (simp only [decide_eq_true_eq, decide_eq_false_iff_not, beq_iff_eq, beq_eq_false_iff_ne, bne_iff_ne, bne_eq_false_iff_eq, Bool.not_eq_true', Bool.not_eq_false', ne_eq, Classical.not_not, Bool.not_true, Bool.not_false, beqL_iff, beqL_ff, List.cons.injEq, and_true] at h) | skip) | ((conv => whnf) <;> (first | exact True.intro | apply br_rec | apply And.intro | apply EntP.k0 | apply EntP.k1 | apply EntP.k2 | apply EntP.k3 | apply EntP.k4 | apply EntP.k5 | apply EntP.k6 | apply DrawP.go | (apply AnyP.mk; kernel_rfl) | (refine AggP.go 2 rfl (by kernel_rfl) ?_) | (refine AggP.go 1 rfl (by kernel_rfl) ?_) | (refine AggP.go 3 rfl (by kernel_rfl) ?_) | (refine AggP.go 4 rfl (by kernel_rfl) ?_) | (refine AggP.go 5 rfl (by kernel_rfl) ?_) | (refine AggP.go 8 rfl (by kernel_rfl) ?_) | (refine AggP.go 11 rfl (by kernel_rfl) ?_) | apply CallP.own0 | apply CallP.own1 | apply CallP.own2 | apply CallP.own3 | apply CallP.nb | apply CutE.go0 | apply CutE.go7 | apply CutE.go6 | apply CutE.go5 | apply CutE.go4 | apply CutE.go3 | apply CutE.go2 | apply CutE.go1 | apply RoP.id | apply wrapS | (with_reducible exact lenNil) | apply Eq.refl)) | ((first | (with_reducible show rvEq _ _ _ _) | (with_reducible show svEq _ _ _ _) | (with_reducible show cellEq _ _ _ _) | (with_reducible show blkEq _ _ _)); conv => whnf))
  apply LoopP.up (G := Nat) (fun k => (k : Int) ≤ regsF op ∧ Up k fun i => inF ([a, b, c].getD i 0) 0 7 = true) [1, 3, 4] (fun k => [(4, .i k)]) (fun _ => []) 2 (fun k => (regsF op).toNat - k)
  apply And.intro
  · refine CutE.at 0 ?_
    repeat' (first | (intro h; first | exact Bool.noConfusion h | (guard_hyp h : true = true; clear h) | (guard_hyp h : false = false; clear h) | (simp only [decide_eq_true_eq, decide_eq_false_iff_not, beq_iff_eq, beq_eq_false_iff_ne, bne_iff_ne, bne_eq_false_iff_eq, Bool.not_eq_true', Bool.not_eq_false', ne_eq, Classical.not_not, Bool.not_true, Bool.not_false, beqL_iff, beqL_ff, List.cons.injEq, and_true] at h) | skip) | ((conv => whnf) <;> (first | exact True.intro | apply br_rec | apply And.intro | apply EntP.k0 | apply EntP.k1 | apply EntP.k2 | apply EntP.k3 | apply EntP.k4 | apply EntP.k5 | apply EntP.k6 | apply DrawP.go | (apply AnyP.mk; kernel_rfl) | (refine AggP.go 2 rfl (by kernel_rfl) ?_) | (refine AggP.go 1 rfl (by kernel_rfl) ?_) | (refine AggP.go 3 rfl (by kernel_rfl) ?_) | (refine AggP.go 4 rfl (by kernel_rfl) ?_) | (refine AggP.go 5 rfl (by kernel_rfl) ?_) | (refine AggP.go 8 rfl (by kernel_rfl) ?_) | (refine AggP.go 11 rfl (by kernel_rfl) ?_) | apply CallP.own0 | apply CallP.own1 | apply CallP.own2 | apply CallP.own3 | apply CallP.nb | apply CutE.go0 | apply CutE.go7 | apply CutE.go6 | apply CutE.go5 | apply CutE.go4 | apply CutE.go3 | apply CutE.go2 | apply CutE.go1 | apply RoP.id | apply wrapS | (with_reducible exact lenNil) | apply Eq.refl)) | ((first | (with_reducible show rvEq _ _ _ _) | (with_reducible show svEq _ _ _ _) | (with_reducible show cellEq _ _ _ _) | (with_reducible show blkEq _ _ _)); conv => whnf))
    all_goals first | omega | exact hr.1 | exact Up.zero _ | trace_state
  · rintro k ⟨hk, hu⟩
    have hj := jumpF_le op
    repeat' (first | (intro h; first | exact Bool.noConfusion h | (guard_hyp h : true = true; clear h) | (guard_hyp h : false = false; clear h) | (simp only [decide_eq_true_eq, decide_eq_false_iff_not, beq_iff_eq, beq_eq_false_iff_ne, bne_iff_ne, bne_eq_false_iff_eq, Bool.not_eq_true', Bool.not_eq_false', ne_eq, Classical.not_not, Bool.not_true, Bool.not_false, beqL_iff, beqL_ff, List.cons.injEq, and_true] at h) | skip) | ((conv => whnf) <;> (first | exact True.intro | apply br_rec | apply And.intro | refine CutE.at (A := Nat) (k + 1) ?_ | apply EntP.k0 | apply EntP.k1 | apply EntP.k2 | apply EntP.k3 | apply EntP.k4 | apply EntP.k5 | apply EntP.k6 | apply DrawP.go | (apply AnyP.mk; kernel_rfl) | (refine AggP.go 2 rfl (by kernel_rfl) ?_) | (refine AggP.go 1 rfl (by kernel_rfl) ?_) | (refine AggP.go 3 rfl (by kernel_rfl) ?_) | (refine AggP.go 4 rfl (by kernel_rfl) ?_) | (refine AggP.go 5 rfl (by kernel_rfl) ?_) | (refine AggP.go 8 rfl (by kernel_rfl) ?_) | (refine AggP.go 11 rfl (by kernel_rfl) ?_) | apply CallP.own0 | apply CallP.own1 | apply CallP.own2 | apply CallP.own3 | apply CallP.nb | apply CutE.go0 | apply CutE.go7 | apply CutE.go6 | apply CutE.go5 | apply CutE.go4 | apply CutE.go3 | apply CutE.go2 | apply CutE.go1 | apply RoP.id | apply wrapS | (with_reducible exact lenNil) | apply Eq.refl)) | ((first | (with_reducible show rvEq _ _ _ _) | (with_reducible show svEq _ _ _ _) | (with_reducible show cellEq _ _ _ _) | (with_reducible show blkEq _ _ _)); conv => whnf))
    all_goals try simp only [Int.toNat_natCast] at *
    all_goals first
      | omega
      | (refine mayI_no (k := k) (by omega) (inF_f (by omega)))
      | (show (regsF op).toNat - (k + 1) < (regsF op).toNat - k; omega)
      | (show ((k + 1 : Nat) : Int) ≤ regsF op; omega)
      | exact hu.succ (inF_t (by omega))
      | (rw [mayI_yes (k := k) (by omega) hu, decide_eq_true (by assumption)]; rfl)
      | (rw [mayI_yes (k := k) (by omega) hu, decide_eq_false (by assumption), inF_f (by omega)]; rfl)
      | (rw [mayI_yes (k := k) (by omega) hu, decide_eq_false (by assumption), Bool.false_or, inF]
         congr 1
         apply propext
         omega)
      | trace_state
end Go.Eng
