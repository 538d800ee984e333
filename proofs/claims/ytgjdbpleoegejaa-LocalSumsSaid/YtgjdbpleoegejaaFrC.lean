/- A thread and its frames: calls. -/
import Derived.Test.YtgjdbpleoegejaaFrB
set_option linter.unusedVariables false
set_option linter.unusedSimpArgs false
namespace Go.Eng
open Go Go.Proofs

def th0 : Th := ⟨0, 0, 0, 0, 0, 0, 0, 0, 0, [], 0, 0, []⟩
def rTh (t : Th) : Sv := .agg (thC t)
def callF (t : Th) (to : Int) : Th × Int :=
  if thR t = true ∧ ¬ t.pc = 1000 ∧ placeF to = true then (if t.fs.length = 6 then (th0, 13) else
    (⟨to, t.r0, t.r1, t.r2, t.r3, t.r4, t.r5, t.r6, t.r7, t.fs ++ [⟨t.pc + 1, t.r4, t.r5, t.r6, t.r7⟩], t.st, t.fa, t.lf⟩, 0)) else (th0, 1)
def backF (t : Th) : Th × Int :=
  if thR t = true then (if t.fs.length = 0 then (th0, 8) else
    (⟨(t.fs.getD (t.fs.length - 1) default).back, t.r0, t.r1, t.r2, t.r3, (t.fs.getD (t.fs.length - 1) default).k0, (t.fs.getD (t.fs.length - 1) default).k1, (t.fs.getD (t.fs.length - 1) default).k2, (t.fs.getD (t.fs.length - 1) default).k3, t.fs.take (t.fs.length - 1), t.st, t.fa, t.lf⟩, 0)) else (th0, 1)
def sClip : FSpec := spec (List FrT) (fun l => [.c (frsS l)]) (fun l => l.length ≤ 1000000) fun l => .c (.ro l.length 5 true (slG encFr l))
def sCloneF : FSpec := spec (List FrT) (fun l => [.c (frsS l)]) (fun l => l.length ≤ 1000000) fun l => .c (frsS l)
set_option maxHeartbeats 2000000 in
set_option maxRecDepth 100000 in
theorem clip_ok : Meets Try.prog 30 sClip := by
  refine meets_plain (gok_nil _) rfl [] (fn := Try.f30) rfl rfl rfl (by decide) fun l hl => ?_
  repeat' (first | (intro h; first | exact Bool.noConfusion h | (guard_hyp h : true = true; clear h) | (guard_hyp h : false = false; clear h) | (simp only [decide_eq_true_eq, decide_eq_false_iff_not, beq_iff_eq, beq_eq_false_iff_ne, bne_iff_ne, bne_eq_false_iff_eq, Bool.not_eq_true', Bool.not_eq_false', ne_eq, Classical.not_not, Bool.not_true, Bool.not_false, beqL_iff, beqL_ff, List.cons.injEq, and_true] at h) | skip) | ((conv => whnf) <;> (first | exact True.intro | apply br_rec | apply And.intro | apply EntP.k0 | apply EntP.k1 | apply EntP.k2 | apply EntP.k3 | apply EntP.k4 | apply EntP.k5 | apply EntP.k6 | apply DrawP.go | (apply AnyP.mk; kernel_rfl) | (refine AggP.go 2 rfl (by kernel_rfl) ?_) | (refine AggP.go 1 rfl (by kernel_rfl) ?_) | (refine AggP.go 3 rfl (by kernel_rfl) ?_) | (refine AggP.go 4 rfl (by kernel_rfl) ?_) | (refine AggP.go 5 rfl (by kernel_rfl) ?_) | (refine AggP.go 8 rfl (by kernel_rfl) ?_) | (refine AggP.go 11 rfl (by kernel_rfl) ?_) | apply CallP.own0 | apply CallP.own1 | apply CallP.own2 | apply CallP.own3 | apply CallP.nb | apply CutE.go0 | apply CutE.go7 | apply CutE.go6 | apply CutE.go5 | apply CutE.go4 | apply CutE.go3 | apply CutE.go2 | apply CutE.go1 | apply RoP.id | apply wrapS | (with_reducible exact lenNil) | apply Eq.refl)) | ((first | (with_reducible show rvEq _ _ _ _) | (with_reducible show svEq _ _ _ _) | (with_reducible show cellEq _ _ _ _) | (with_reducible show blkEq _ _ _)); conv => whnf))
  all_goals first
    | omega
    | (show l.length = (((l.length : Int) - 0).toNat); omega)
    | (show slG encFr l _ _ = slG encFr l (0 + _) _; rw [Nat.zero_add])
    | trace_state
set_option maxHeartbeats 2000000 in
set_option maxRecDepth 100000 in
theorem cloneF_ok : Meets Try.prog 31 sCloneF := by
  refine meets_plain (gok_nil _) rfl [] (fn := Try.f31) rfl rfl rfl (by decide) fun l hl => ?_
  have hl : l.length ≤ 1000000 := hl
  repeat' (first | (intro h; first | exact Bool.noConfusion h | (guard_hyp h : true = true; clear h) | (guard_hyp h : false = false; clear h) | (simp only [decide_eq_true_eq, decide_eq_false_iff_not, beq_iff_eq, beq_eq_false_iff_ne, bne_iff_ne, bne_eq_false_iff_eq, Bool.not_eq_true', Bool.not_eq_false', ne_eq, Classical.not_not, Bool.not_true, Bool.not_false, beqL_iff, beqL_ff, List.cons.injEq, and_true] at h) | skip) | ((conv => whnf) <;> (first | exact True.intro | apply br_rec | apply And.intro | apply EntP.k0 | apply EntP.k1 | apply EntP.k2 | apply EntP.k3 | apply EntP.k4 | apply EntP.k5 | apply EntP.k6 | apply DrawP.go | (apply AnyP.mk; kernel_rfl) | (refine AggP.go 2 rfl (by kernel_rfl) ?_) | (refine AggP.go 1 rfl (by kernel_rfl) ?_) | (refine AggP.go 3 rfl (by kernel_rfl) ?_) | (refine AggP.go 4 rfl (by kernel_rfl) ?_) | (refine AggP.go 5 rfl (by kernel_rfl) ?_) | (refine AggP.go 8 rfl (by kernel_rfl) ?_) | (refine AggP.go 11 rfl (by kernel_rfl) ?_) | apply CallP.own0 | apply CallP.own1 | apply CallP.own2 | apply CallP.own3 | apply CallP.nb | apply CutE.go0 | apply CutE.go7 | apply CutE.go6 | apply CutE.go5 | apply CutE.go4 | apply CutE.go3 | apply CutE.go2 | apply CutE.go1 | apply RoP.id | apply wrapS | (with_reducible exact lenNil) | apply Eq.refl)) | ((first | (with_reducible show rvEq _ _ _ _) | (with_reducible show svEq _ _ _ _) | (with_reducible show cellEq _ _ _ _) | (with_reducible show blkEq _ _ _)); conv => whnf))
  all_goals try simp only at *
  all_goals first
    | omega
    | (show (0 + l.length) * 40 ≤ _; omega)
    | trace_state
def F5 : List (Nat × FSpec) := (14, sThR) :: (30, sClip) :: (31, sCloneF) :: F4
theorem F5_ok : GOK Try.prog (tab F5) := gok_cons thR_ok (gok_cons clip_ok (gok_cons cloneF_ok F4_ok))

theorem callF_no {t : Th} {to : Int} (h : ¬ (thR t = true ∧ ¬ t.pc = 1000 ∧ placeF to = true)) : callF t to = (th0, 1) := by rw [callF, if_neg h]
theorem callF_deep {t : Th} {to : Int} (h : thR t = true ∧ ¬ t.pc = 1000 ∧ placeF to = true) (h6 : t.fs.length = 6) : callF t to = (th0, 13) := by rw [callF, if_pos h, if_pos h6]
theorem callF_go {t : Th} {to : Int} (h : thR t = true ∧ ¬ t.pc = 1000 ∧ placeF to = true) (h6 : ¬ t.fs.length = 6) : callF t to = (⟨to, t.r0, t.r1, t.r2, t.r3, t.r4, t.r5, t.r6, t.r7, t.fs ++ [⟨t.pc + 1, t.r4, t.r5, t.r6, t.r7⟩], t.st, t.fa, t.lf⟩, 0) := by rw [callF, if_pos h, if_neg h6]
theorem backF_no {t : Th} (h : ¬ thR t = true) : backF t = (th0, 1) := by rw [backF, if_neg h]
theorem backF_none {t : Th} (h : thR t = true) (h6 : t.fs.length = 0) : backF t = (th0, 8) := by rw [backF, if_pos h, if_pos h6]
theorem backF_go {t : Th} (h : thR t = true) (h6 : ¬ t.fs.length = 0) : backF t = (⟨(t.fs.getD (t.fs.length - 1) default).back, t.r0, t.r1, t.r2, t.r3, (t.fs.getD (t.fs.length - 1) default).k0, (t.fs.getD (t.fs.length - 1) default).k1, (t.fs.getD (t.fs.length - 1) default).k2, (t.fs.getD (t.fs.length - 1) default).k3, t.fs.take (t.fs.length - 1), t.st, t.fa, t.lf⟩, 0) := by rw [backF, if_pos h, if_neg h6]
theorem placeF_iff {n : Int} : placeF n = true ↔ (0 ≤ n ∧ n ≤ 1000) := decide_eq_true_iff
def sCall : FSpec := spec (Th × Int) (fun (t, to) => [.agg (thC t), .i to]) (fun (t, _) => SmallT t) fun (t, to) => .tup [rTh (callF t to).1, .c (.i (callF t to).2)]
set_option maxHeartbeats 4000000 in
set_option maxRecDepth 100000 in
theorem call_ok : Meets Try.prog 12 sCall := by
  refine meets_plain F5_ok rfl [] (fn := Try.f12) rfl rfl rfl (by decide) fun ⟨⟨pc, r0, r1, r2, r3, r4, r5, r6, r7, fs, st, fa, lf⟩, to⟩ hS => ?_
  have hS1 : fs.length ≤ 1000000 := hS.1
  repeat' (first | (intro h; first | exact Bool.noConfusion h | (guard_hyp h : true = true; clear h) | (guard_hyp h : false = false; clear h) | (simp only [decide_eq_true_eq, decide_eq_false_iff_not, beq_iff_eq, beq_eq_false_iff_ne, bne_iff_ne, bne_eq_false_iff_eq, Bool.not_eq_true', Bool.not_eq_false', ne_eq, Classical.not_not, Bool.not_true, Bool.not_false, beqL_iff, beqL_ff, List.cons.injEq, and_true] at h) | skip) | ((conv => whnf) <;> (first | exact True.intro | apply br_rec | apply And.intro | apply CutE.goTh | apply EntP.k0 | apply EntP.k1 | apply EntP.k2 | apply EntP.k3 | apply EntP.k4 | apply EntP.k5 | apply EntP.k6 | apply DrawP.go | (apply AnyP.mk; kernel_rfl) | (refine AggP.go 2 rfl (by kernel_rfl) ?_) | (refine AggP.go 1 rfl (by kernel_rfl) ?_) | (refine AggP.go 3 rfl (by kernel_rfl) ?_) | (refine AggP.go 4 rfl (by kernel_rfl) ?_) | (refine AggP.go 5 rfl (by kernel_rfl) ?_) | (refine AggP.go 8 rfl (by kernel_rfl) ?_) | (refine AggP.go 11 rfl (by kernel_rfl) ?_) | apply CallP.own0 | apply CallP.own1 | apply CallP.own2 | apply CallP.own3 | apply CallP.nb | apply CutE.go0 | apply CutE.go7 | apply CutE.go6 | apply CutE.go5 | apply CutE.go4 | apply CutE.go3 | apply CutE.go2 | apply CutE.go1 | apply RoP.id | apply wrapS | (with_reducible exact lenNil) | apply Eq.refl)) | ((first | (with_reducible show rvEq _ _ _ _) | (with_reducible show svEq _ _ _ _) | (with_reducible show cellEq _ _ _ _) | (with_reducible show blkEq _ _ _)); conv => whnf))
  all_goals try first
    | exact hS.1
    | exact hS.2
    | omega
    | (show (fs.length + 1) * 40 ≤ _; omega)
    | (show fs.length + 1 ≤ _; omega)
  all_goals (by_cases hh : thR ⟨pc, r0, r1, r2, r3, r4, r5, r6, r7, fs, st, fa, lf⟩ = true ∧ ¬ pc = 1000 ∧ placeF to = true)
  all_goals (by_cases h6 : fs.length = 6)
  all_goals first
    | (rw [callF_no hh]; done)
    | (rw [callF_no hh]; rfl)
    | (rw [callF_deep hh h6]; done)
    | (rw [callF_deep hh h6]; rfl)
    | (rw [callF_go hh h6]; done)
    | (rw [callF_go hh h6]; rfl)
    | (exfalso; exact hh ⟨by assumption, by assumption, by assumption⟩)
    | (exfalso; simp_all; done)
    | (exfalso; omega)
    | (have hp : 0 ≤ pc ∧ pc ≤ 1000 := (placeF_iff.1 (thR_iff.1 hh.1).1)
       rename_i i hi t
       rw [callF_go hh h6] at hi ⊢
       have hw : IntKind.i64.wrap (pc + 1) = pc + 1 := wrap_i64 (by omega)
       have key := (slG_snoc (enc := encFr) (l := fs) (k := 5) (n := fs.length) (x := ⟨pc + 1, r4, r5, r6, r7⟩) rfl rfl i (by simpa using hi) t h).symm
       have e : encFr ⟨pc + 1, r4, r5, r6, r7⟩ = [.i (IntKind.i64.wrap (pc + 1)), .i r4, .i r5, .i r6, .i r7] := congrArg (fun z => [Cell.i z, .i r4, .i r5, .i r6, .i r7]) hw.symm
       rw [e] at key
       exact key)
    | (rw [callF_go hh h6]; simp; done)
    | trace_state
def sBackF : FSpec := spec Th (fun t => [.agg (thC t)]) (fun t => SmallT t) fun t => .tup [rTh (backF t).1, .c (.i (backF t).2)]
set_option maxHeartbeats 4000000 in
set_option maxRecDepth 100000 in
theorem backF_ok : Meets Try.prog 13 sBackF := by
  refine meets_plain F5_ok rfl [] (fn := Try.f13) rfl rfl rfl (by decide) fun ⟨pc, r0, r1, r2, r3, r4, r5, r6, r7, fs, st, fa, lf⟩ hS => ?_
  have hS1 : fs.length ≤ 1000000 := hS.1
  have hw : ¬ fs.length = 0 → IntKind.i64.wrap ((fs.length : Int) - 1) = ((fs.length - 1 : Nat) : Int) := fun h => by rw [wrap_i64 (by omega)]; omega
  repeat' (first | (intro h; first | exact Bool.noConfusion h | (guard_hyp h : true = true; clear h) | (guard_hyp h : false = false; clear h) | (simp only [decide_eq_true_eq, decide_eq_false_iff_not, beq_iff_eq, beq_eq_false_iff_ne, bne_iff_ne, bne_eq_false_iff_eq, Bool.not_eq_true', Bool.not_eq_false', ne_eq, Classical.not_not, Bool.not_true, Bool.not_false, beqL_iff, beqL_ff, List.cons.injEq, and_true] at h) | skip) | ((conv => whnf) <;> (first | exact True.intro | apply br_rec | apply And.intro | apply CutE.goTh | apply EntP.k0 | apply EntP.k1 | apply EntP.k2 | apply EntP.k3 | apply EntP.k4 | apply EntP.k5 | apply EntP.k6 | apply DrawP.go | (apply AnyP.mk; kernel_rfl) | (refine AggP.go 2 rfl (by kernel_rfl) ?_) | (refine AggP.go 1 rfl (by kernel_rfl) ?_) | (refine AggP.go 3 rfl (by kernel_rfl) ?_) | (refine AggP.go 4 rfl (by kernel_rfl) ?_) | (refine AggP.go 5 rfl (by kernel_rfl) ?_) | (refine AggP.go 8 rfl (by kernel_rfl) ?_) | (refine AggP.go 11 rfl (by kernel_rfl) ?_) | apply CallP.own0 | apply CallP.own1 | apply CallP.own2 | apply CallP.own3 | apply CallP.nb | apply CutE.go0 | apply CutE.go7 | apply CutE.go6 | apply CutE.go5 | apply CutE.go4 | apply CutE.go3 | apply CutE.go2 | apply CutE.go1 | apply RoP.id | apply wrapS | (with_reducible exact lenNil) | apply Eq.refl)) | ((first | (with_reducible show rvEq _ _ _ _) | (with_reducible show svEq _ _ _ _) | (with_reducible show cellEq _ _ _ _) | (with_reducible show blkEq _ _ _)); conv => whnf))
  all_goals try first
    | exact hS.1
    | exact hS.2
    | omega
  all_goals (by_cases hh : thR ⟨pc, r0, r1, r2, r3, r4, r5, r6, r7, fs, st, fa, lf⟩ = true)
  all_goals (by_cases h6 : fs.length = 0)
  all_goals try simp only [hw h6, Int.toNat_natCast] at *
  all_goals first
    | (rw [backF_no hh]; done)
    | (rw [backF_no hh]; rfl)
    | (rw [backF_none hh h6]; done)
    | (rw [backF_none hh h6]; rfl)
    | (rw [backF_go hh h6]; done)
    | (rw [backF_go hh h6]; rfl)
    | (rw [backF_go hh h6]; show (fs.take (fs.length - 1)).length = _; rw [List.length_take]; omega)
    | (show (backF _).1.fs.length ≤ 1000000; rw [backF_go hh h6]; show (fs.take (fs.length - 1)).length ≤ _; rw [List.length_take]; omega)
    | (rename_i i hi t
       rw [backF_go hh h6] at hi ⊢
       show slG encFr (fs.take (fs.length - 1)) i t = slG encFr fs (0 + i) t
       have hi : i < (fs.take (fs.length - 1)).length := hi
       rw [List.length_take] at hi
       rw [Nat.zero_add, slG_take _ _ _ _ (by omega)])
    | (exfalso; exact hh (by assumption))
    | (exfalso; omega)
    | omega
    | (exfalso; simp_all; done)
    | trace_state
end Go.Eng
