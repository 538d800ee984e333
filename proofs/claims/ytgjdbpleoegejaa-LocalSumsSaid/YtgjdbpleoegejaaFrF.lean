/- A thread and its frames: the reference's calls; a sign of life. -/
import Derived.Test.YtgjdbpleoegejaaFrD
import Derived.Test.YtgjdbpleoegejaaFrE
set_option linter.unusedVariables false
set_option linter.unusedSimpArgs false
namespace Go.Eng
open Go Go.Proofs

def sRCall : FSpec := spec (Th × Int) (fun (t, to) => [.agg (thC t), .i to]) (fun (t, to) => thR t = true ∧ ¬ t.pc = 1000 ∧ placeF to = true) fun (t, to) => .tup [rTh (callF t to).1, .c (.i (callF t to).2)]
set_option maxHeartbeats 4000000 in
set_option maxRecDepth 100000 in
theorem rcall_ok : Meets Try.prog 19 sRCall := by
  refine meets_plain (gok_nil _) rfl [] (fn := Try.f19) rfl rfl rfl (by decide) fun ⟨⟨pc, r0, r1, r2, r3, r4, r5, r6, r7, fs, st, fa, lf⟩, to⟩ hh => ?_
  have hh : thR ⟨pc, r0, r1, r2, r3, r4, r5, r6, r7, fs, st, fa, lf⟩ = true ∧ ¬ pc = 1000 ∧ placeF to = true := hh
  have h6' : fs.length ≤ 6 := (thR_iff.1 hh.1).2.1
  have hp : 0 ≤ pc ∧ pc ≤ 1000 := (placeF_iff.1 (thR_iff.1 hh.1).1)
  have hw : IntKind.i64.wrap (pc + 1) = pc + 1 := wrap_i64 (by omega)
  by_cases h6 : fs.length = 6
  · show bodyK Try.prog _ _ _ _ sRCall (⟨pc, r0, r1, r2, r3, r4, r5, r6, r7, fs, st, fa, lf⟩, to)
    have e1 : sRCall.res (⟨pc, r0, r1, r2, r3, r4, r5, r6, r7, fs, st, fa, lf⟩, to) = .tup [rTh th0, .c (.i 13)] := by show RV.tup _ = _; rw [callF_deep hh h6]
    unfold bodyK
    rw [e1]
    repeat' (first | (intro h; first | exact Bool.noConfusion h | (guard_hyp h : true = true; clear h) | (guard_hyp h : false = false; clear h) | (simp only [decide_eq_true_eq, decide_eq_false_iff_not, beq_iff_eq, beq_eq_false_iff_ne, bne_iff_ne, bne_eq_false_iff_eq, Bool.not_eq_true', Bool.not_eq_false', ne_eq, Classical.not_not, Bool.not_true, Bool.not_false, beqL_iff, beqL_ff, List.cons.injEq, and_true] at h) | skip) | ((conv => whnf) <;> (first | exact True.intro | apply br_rec | apply And.intro | apply EntP.k0 | apply EntP.k1 | apply EntP.k2 | apply EntP.k3 | apply EntP.k4 | apply EntP.k5 | apply EntP.k6 | apply DrawP.go | (apply AnyP.mk; kernel_rfl) | (refine AggP.go 2 rfl (by kernel_rfl) ?_) | (refine AggP.go 1 rfl (by kernel_rfl) ?_) | (refine AggP.go 3 rfl (by kernel_rfl) ?_) | (refine AggP.go 4 rfl (by kernel_rfl) ?_) | (refine AggP.go 5 rfl (by kernel_rfl) ?_) | (refine AggP.go 8 rfl (by kernel_rfl) ?_) | (refine AggP.go 11 rfl (by kernel_rfl) ?_) | apply CallP.own0 | apply CallP.own1 | apply CallP.own2 | apply CallP.own3 | apply CallP.nb | apply CutE.go0 | apply CutE.go7 | apply CutE.go6 | apply CutE.go5 | apply CutE.go4 | apply CutE.go3 | apply CutE.go2 | apply CutE.go1 | apply RoP.id | apply wrapS | (with_reducible exact lenNil) | apply Eq.refl)) | ((first | (with_reducible show rvEq _ _ _ _) | (with_reducible show svEq _ _ _ _) | (with_reducible show cellEq _ _ _ _) | (with_reducible show blkEq _ _ _)); conv => whnf))
    all_goals first | omega | trace_state
  · show bodyK Try.prog _ _ _ _ sRCall (⟨pc, r0, r1, r2, r3, r4, r5, r6, r7, fs, st, fa, lf⟩, to)
    have e1 : sRCall.res (⟨pc, r0, r1, r2, r3, r4, r5, r6, r7, fs, st, fa, lf⟩, to) = .tup [rTh ⟨to, r0, r1, r2, r3, r4, r5, r6, r7, fs ++ [⟨pc + 1, r4, r5, r6, r7⟩], st, fa, lf⟩, .c (.i 0)] := by show RV.tup _ = _; rw [callF_go hh h6]
    unfold bodyK
    rw [e1]
    clear e1 hh
    repeat' (first | (intro h; first | exact Bool.noConfusion h | (guard_hyp h : true = true; clear h) | (guard_hyp h : false = false; clear h) | (simp only [decide_eq_true_eq, decide_eq_false_iff_not, beq_iff_eq, beq_eq_false_iff_ne, bne_iff_ne, bne_eq_false_iff_eq, Bool.not_eq_true', Bool.not_eq_false', ne_eq, Classical.not_not, Bool.not_true, Bool.not_false, beqL_iff, beqL_ff, List.cons.injEq, and_true] at h) | skip) | ((conv => whnf) <;> (first | exact True.intro | apply br_rec | apply And.intro | apply EntP.k0 | apply EntP.k1 | apply EntP.k2 | apply EntP.k3 | apply EntP.k4 | apply EntP.k5 | apply EntP.k6 | apply DrawP.go | (apply AnyP.mk; kernel_rfl) | (refine AggP.go 2 rfl (by kernel_rfl) ?_) | (refine AggP.go 1 rfl (by kernel_rfl) ?_) | (refine AggP.go 3 rfl (by kernel_rfl) ?_) | (refine AggP.go 4 rfl (by kernel_rfl) ?_) | (refine AggP.go 5 rfl (by kernel_rfl) ?_) | (refine AggP.go 8 rfl (by kernel_rfl) ?_) | (refine AggP.go 11 rfl (by kernel_rfl) ?_) | apply CallP.own0 | apply CallP.own1 | apply CallP.own2 | apply CallP.own3 | apply CallP.nb | apply CutE.go0 | apply CutE.go7 | apply CutE.go6 | apply CutE.go5 | apply CutE.go4 | apply CutE.go3 | apply CutE.go2 | apply CutE.go1 | apply RoP.id | apply wrapS | (with_reducible exact lenNil) | apply Eq.refl)) | ((first | (with_reducible show rvEq _ _ _ _) | (with_reducible show svEq _ _ _ _) | (with_reducible show cellEq _ _ _ _) | (with_reducible show blkEq _ _ _)); conv => whnf))
    all_goals try simp only at *
    all_goals first
      | (exfalso; omega)
      | omega
      | (show (0 + fs.length) * 40 ≤ _; omega)
      | (show (0 + fs.length + 1) * 40 ≤ _; omega)
      | (rw [List.length_append]; simp only [List.length_cons, List.length_nil]; omega)
      | (rename_i i hi t
         have e0 : ∀ i t, catG 0 (litG (Try.prog.types[54].size) []) (slG encFr fs) i t = slG encFr fs i t := fun i t => by simp [catG]
         have e1 : catG 0 (litG (Try.prog.types[54].size) []) (slG encFr fs) = slG encFr fs := funext fun i => funext fun t => e0 i t
         rw [e1, Nat.zero_add]
         have key := (slG_snoc (enc := encFr) (l := fs) (k := 5) (n := fs.length) (x := ⟨pc + 1, r4, r5, r6, r7⟩) rfl rfl i (by simpa using hi) t h).symm
         have e : encFr ⟨pc + 1, r4, r5, r6, r7⟩ = [.i (IntKind.i64.wrap (pc + 1)), .i r4, .i r5, .i r6, .i r7] := congrArg (fun z => [Cell.i z, .i r4, .i r5, .i r6, .i r7]) hw.symm
         rw [e] at key
         exact key)
      | trace_state
def sRBack : FSpec := spec Th (fun t => [.agg (thC t)]) (fun t => thR t = true) fun t => .tup [rTh (backF t).1, .c (.i (backF t).2)]
set_option maxHeartbeats 4000000 in
set_option maxRecDepth 100000 in
theorem rback_ok : Meets Try.prog 18 sRBack := by
  refine meets_plain (gok_nil _) rfl [] (fn := Try.f18) rfl rfl rfl (by decide) fun ⟨pc, r0, r1, r2, r3, r4, r5, r6, r7, fs, st, fa, lf⟩ hh => ?_
  have hh : thR ⟨pc, r0, r1, r2, r3, r4, r5, r6, r7, fs, st, fa, lf⟩ = true := hh
  have h6' : fs.length ≤ 6 := (thR_iff.1 hh).2.1
  have hw : ¬ fs.length = 0 → IntKind.i64.wrap ((fs.length : Int) - 1) = ((fs.length - 1 : Nat) : Int) := fun h => by rw [wrap_i64 (by omega)]; omega
  by_cases h6 : fs.length = 0
  · show bodyK Try.prog _ _ _ _ sRBack ⟨pc, r0, r1, r2, r3, r4, r5, r6, r7, fs, st, fa, lf⟩
    have e1 : sRBack.res ⟨pc, r0, r1, r2, r3, r4, r5, r6, r7, fs, st, fa, lf⟩ = .tup [rTh th0, .c (.i 8)] := by show RV.tup _ = _; rw [backF_none hh h6]
    unfold bodyK
    rw [e1]
    repeat' (first | (intro h; first | exact Bool.noConfusion h | (guard_hyp h : true = true; clear h) | (guard_hyp h : false = false; clear h) | (simp only [decide_eq_true_eq, decide_eq_false_iff_not, beq_iff_eq, beq_eq_false_iff_ne, bne_iff_ne, bne_eq_false_iff_eq, Bool.not_eq_true', Bool.not_eq_false', ne_eq, Classical.not_not, Bool.not_true, Bool.not_false, beqL_iff, beqL_ff, List.cons.injEq, and_true] at h) | skip) | ((conv => whnf) <;> (first | exact True.intro | apply br_rec | apply And.intro | apply EntP.k0 | apply EntP.k1 | apply EntP.k2 | apply EntP.k3 | apply EntP.k4 | apply EntP.k5 | apply EntP.k6 | apply DrawP.go | (apply AnyP.mk; kernel_rfl) | (refine AggP.go 2 rfl (by kernel_rfl) ?_) | (refine AggP.go 1 rfl (by kernel_rfl) ?_) | (refine AggP.go 3 rfl (by kernel_rfl) ?_) | (refine AggP.go 4 rfl (by kernel_rfl) ?_) | (refine AggP.go 5 rfl (by kernel_rfl) ?_) | (refine AggP.go 8 rfl (by kernel_rfl) ?_) | (refine AggP.go 11 rfl (by kernel_rfl) ?_) | apply CallP.own0 | apply CallP.own1 | apply CallP.own2 | apply CallP.own3 | apply CallP.nb | apply CutE.go0 | apply CutE.go7 | apply CutE.go6 | apply CutE.go5 | apply CutE.go4 | apply CutE.go3 | apply CutE.go2 | apply CutE.go1 | apply RoP.id | apply wrapS | (with_reducible exact lenNil) | apply Eq.refl)) | ((first | (with_reducible show rvEq _ _ _ _) | (with_reducible show svEq _ _ _ _) | (with_reducible show cellEq _ _ _ _) | (with_reducible show blkEq _ _ _)); conv => whnf))
    all_goals first | omega | trace_state
  · have hw := hw h6
    show bodyK Try.prog _ _ _ _ sRBack ⟨pc, r0, r1, r2, r3, r4, r5, r6, r7, fs, st, fa, lf⟩
    have e1 : sRBack.res ⟨pc, r0, r1, r2, r3, r4, r5, r6, r7, fs, st, fa, lf⟩ = .tup [rTh ⟨(fs.getD (fs.length - 1) default).back, r0, r1, r2, r3, (fs.getD (fs.length - 1) default).k0, (fs.getD (fs.length - 1) default).k1, (fs.getD (fs.length - 1) default).k2, (fs.getD (fs.length - 1) default).k3, fs.take (fs.length - 1), st, fa, lf⟩, .c (.i 0)] := by show RV.tup _ = _; rw [backF_go hh h6]
    unfold bodyK
    rw [e1]
    clear e1 hh
    repeat' (first | (intro h; first | exact Bool.noConfusion h | (guard_hyp h : true = true; clear h) | (guard_hyp h : false = false; clear h) | (simp only [decide_eq_true_eq, decide_eq_false_iff_not, beq_iff_eq, beq_eq_false_iff_ne, bne_iff_ne, bne_eq_false_iff_eq, Bool.not_eq_true', Bool.not_eq_false', ne_eq, Classical.not_not, Bool.not_true, Bool.not_false, beqL_iff, beqL_ff, List.cons.injEq, and_true] at h) | skip) | ((conv => whnf) <;> (first | exact True.intro | apply br_rec | apply And.intro | apply EntP.k0 | apply EntP.k1 | apply EntP.k2 | apply EntP.k3 | apply EntP.k4 | apply EntP.k5 | apply EntP.k6 | apply DrawP.go | (apply AnyP.mk; kernel_rfl) | (refine AggP.go 2 rfl (by kernel_rfl) ?_) | (refine AggP.go 1 rfl (by kernel_rfl) ?_) | (refine AggP.go 3 rfl (by kernel_rfl) ?_) | (refine AggP.go 4 rfl (by kernel_rfl) ?_) | (refine AggP.go 5 rfl (by kernel_rfl) ?_) | (refine AggP.go 8 rfl (by kernel_rfl) ?_) | (refine AggP.go 11 rfl (by kernel_rfl) ?_) | apply CallP.own0 | apply CallP.own1 | apply CallP.own2 | apply CallP.own3 | apply CallP.nb | apply CutE.go0 | apply CutE.go7 | apply CutE.go6 | apply CutE.go5 | apply CutE.go4 | apply CutE.go3 | apply CutE.go2 | apply CutE.go1 | apply RoP.id | apply wrapS | (with_reducible exact lenNil) | apply Eq.refl)) | ((first | (with_reducible show rvEq _ _ _ _) | (with_reducible show svEq _ _ _ _) | (with_reducible show cellEq _ _ _ _) | (with_reducible show blkEq _ _ _)); conv => whnf))
    all_goals try simp only [hw, Int.toNat_natCast] at *
    all_goals first
      | (exfalso; omega)
      | omega
      | (show (0 + _) * 40 ≤ _; omega)
      | (rw [List.length_take]; omega)
      | (rename_i i hi t _
         have hi : i < (fs.take (fs.length - 1)).length := hi
         rw [List.length_take] at hi
         unfold catG
         rw [if_neg (Nat.not_lt_zero _), slG_take _ _ _ _ (by omega)]
         show slG encFr fs i t = slG encFr fs (0 + (i - 0)) t
         rw [Nat.sub_zero, Nat.zero_add])
      | trace_state
def few6 (t : Th) : Th := ⟨t.pc, t.r0, t.r1, t.r2, t.r3, t.r4, t.r5, t.r6, t.r7, t.fs.take 8, t.st, t.fa, t.lf.take 10⟩
def sFew : FSpec := spec Th (fun t => [.agg (thC t)]) (fun _ => True) fun t => .s (rTh (few6 t))
set_option maxHeartbeats 4000000 in
set_option maxRecDepth 100000 in
theorem few_ok : Meets Try.prog 11 sFew := by
  refine meets_plain (gok_nil _) rfl [] (fn := Try.f11) rfl rfl rfl (by decide) fun ⟨pc, r0, r1, r2, r3, r4, r5, r6, r7, fs, st, fa, lf⟩ _ => ?_
  repeat' (first | (intro h; first | exact Bool.noConfusion h | (guard_hyp h : true = true; clear h) | (guard_hyp h : false = false; clear h) | (simp only [decide_eq_true_eq, decide_eq_false_iff_not, beq_iff_eq, beq_eq_false_iff_ne, bne_iff_ne, bne_eq_false_iff_eq, Bool.not_eq_true', Bool.not_eq_false', ne_eq, Classical.not_not, Bool.not_true, Bool.not_false, beqL_iff, beqL_ff, List.cons.injEq, and_true] at h) | skip) | ((conv => whnf) <;> (first | exact True.intro | apply br_rec | apply And.intro | apply EntP.k0 | apply EntP.k1 | apply EntP.k2 | apply EntP.k3 | apply EntP.k4 | apply EntP.k5 | apply EntP.k6 | apply DrawP.go | (apply AnyP.mk; kernel_rfl) | (refine AggP.go 2 rfl (by kernel_rfl) ?_) | (refine AggP.go 1 rfl (by kernel_rfl) ?_) | (refine AggP.go 3 rfl (by kernel_rfl) ?_) | (refine AggP.go 4 rfl (by kernel_rfl) ?_) | (refine AggP.go 5 rfl (by kernel_rfl) ?_) | (refine AggP.go 8 rfl (by kernel_rfl) ?_) | (refine AggP.go 11 rfl (by kernel_rfl) ?_) | apply CallP.own0 | apply CallP.own1 | apply CallP.own2 | apply CallP.own3 | apply CallP.nb | apply CutE.go0 | apply CutE.go7 | apply CutE.go6 | apply CutE.go5 | apply CutE.go4 | apply CutE.go3 | apply CutE.go2 | apply CutE.go1 | apply RoP.id | apply wrapS | (with_reducible exact lenNil) | apply Eq.refl)) | ((first | (with_reducible show rvEq _ _ _ _) | (with_reducible show svEq _ _ _ _) | (with_reducible show cellEq _ _ _ _) | (with_reducible show blkEq _ _ _)); conv => whnf))
  all_goals first
    | omega
    | exact take_lo (m := 8)
    | exact take_hi (m := 8)
    | exact take_len (m := 8)
    | exact take_lo (m := 10)
    | exact take_hi (m := 10)
    | exact take_len (m := 10)
    | (apply take_cell (m := 8); assumption)
    | (apply take_cell (m := 10); assumption)
    | trace_state
def sFrAlive : FSpec := spec Unit (fun _ => []) (fun _ => True) fun _ => .b true
def F6 : List (Nat × FSpec) := (12, sCall) :: (13, sBackF) :: F5
theorem F6_ok : GOK Try.prog (tab F6) := gok_cons call_ok (gok_cons backF_ok F5_ok)
set_option maxHeartbeats 4000000 in
set_option maxRecDepth 100000 in
theorem frAlive_ok : Meets Try.prog 16 sFrAlive := by
  refine meets_plain F6_ok rfl [] (fn := Try.f16) rfl rfl rfl (by decide) fun _ _ => ?_
  repeat' (first | (intro h; first | exact Bool.noConfusion h | (guard_hyp h : true = true; clear h) | (guard_hyp h : false = false; clear h) | (simp only [decide_eq_true_eq, decide_eq_false_iff_not, beq_iff_eq, beq_eq_false_iff_ne, bne_iff_ne, bne_eq_false_iff_eq, Bool.not_eq_true', Bool.not_eq_false', ne_eq, Classical.not_not, Bool.not_true, Bool.not_false, beqL_iff, beqL_ff, List.cons.injEq, and_true] at h) | skip) | ((conv => whnf) <;> (first | exact True.intro | apply br_rec | apply And.intro | refine CutE.at ((⟨3, 0, 0, 0, 0, 0, 0, 0, 0, [], 0, 0, []⟩, 10) : Th × Int) ?_ | apply EntP.k0 | apply EntP.k1 | apply EntP.k2 | apply EntP.k3 | apply EntP.k4 | apply EntP.k5 | apply EntP.k6 | apply DrawP.go | (apply AnyP.mk; kernel_rfl) | (refine AggP.go 2 rfl (by kernel_rfl) ?_) | (refine AggP.go 1 rfl (by kernel_rfl) ?_) | (refine AggP.go 3 rfl (by kernel_rfl) ?_) | (refine AggP.go 4 rfl (by kernel_rfl) ?_) | (refine AggP.go 5 rfl (by kernel_rfl) ?_) | (refine AggP.go 8 rfl (by kernel_rfl) ?_) | (refine AggP.go 11 rfl (by kernel_rfl) ?_) | apply CallP.own0 | apply CallP.own1 | apply CallP.own2 | apply CallP.own3 | apply CallP.nb | apply CutE.go0 | apply CutE.go7 | apply CutE.go6 | apply CutE.go5 | apply CutE.go4 | apply CutE.go3 | apply CutE.go2 | apply CutE.go1 | apply RoP.id | apply wrapS | (with_reducible exact lenNil) | apply Eq.refl)) | ((first | (with_reducible show rvEq _ _ _ _) | (with_reducible show svEq _ _ _ _) | (with_reducible show cellEq _ _ _ _) | (with_reducible show blkEq _ _ _)); conv => whnf))
  · exact Nat.zero_le _
  · exact Nat.zero_le _
  · decide
  · decide
end Go.Eng
