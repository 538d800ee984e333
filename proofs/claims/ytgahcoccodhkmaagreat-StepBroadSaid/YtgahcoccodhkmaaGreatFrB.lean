/- A part of the walks, and of the machine that proves them (FrB). -/
import Derived.Test.YtgahcoccodhkmaaGreatFrA
set_option linter.unusedVariables false
set_option linter.unusedSimpArgs false
namespace Go.Eng
open Go Go.Proofs
theorem any_upW {α : Type} [Inhabited α] {p : α → Bool} {b : List α} {j : Nat} (hj : b.length ≤ j) (h : Up j fun i => p (b.getD i default) = false) : b.any p = false := by
  rw [List.any_eq_false]
  intro x hp
  obtain ⟨i, hi, rfl⟩ := List.getElem_of_mem hp
  have := h.get i (by omega)
  rw [List.getD_eq_getElem?_getD, List.getElem?_eq_getElem hi] at this
  simpa using this
theorem any_atW {α : Type} [Inhabited α] {p : α → Bool} {b : List α} {j : Nat} (hj : j < b.length) (h : p (b.getD j default) = true) : b.any p = true := by
  rw [List.any_eq_true]
  refine ⟨b[j], List.getElem_mem hj, ?_⟩
  rw [List.getD_eq_getElem?_getD, List.getElem?_eq_getElem hj] at h
  exact h
theorem badFr_t {f : FrT} (h : f.back < 0 ∨ 1000 < f.back) : badFr f = true := by
  rw [badFr, placeF, decide_eq_false (by omega)]; rfl
theorem badFr_f {f : FrT} (h : ¬ (f.back < 0 ∨ 1000 < f.back)) : badFr f = false := by
  rw [badFr, placeF, decide_eq_true (by omega)]; rfl
theorem badN_t {n : Int} (h : n < 0 ∨ 8 < n) : badN n = true := decide_eq_true h
theorem badN_f {n : Int} (h : ¬ (n < 0 ∨ 8 < n)) : badN n = false := decide_eq_false h
set_option maxHeartbeats 4000000 in
set_option maxRecDepth 100000 in
theorem rthR_ok : Meets Tryz.prog 36 sThR := by
  refine meets_plain (gok_nil _) rfl [] (fn := Tryz.f36) rfl rfl rfl (by decide) fun ⟨pc, r0, r1, r2, r3, r4, r5, r6, r7, fs, st, fa, lf⟩ hS => ?_
  have hS1 : fs.length ≤ 1000000 := hS.1
  have hS2 : lf.length ≤ 1000000 := hS.2
  repeat' (first | exact @id (emp _ = true) | (intro h; first | exact Bool.noConfusion h | (simp only [Qn] at h) | skip) | ((conv => whnf) <;> (first | exact trivial | apply Qa | apply And.intro | apply Qb | apply Qc | apply Qd | apply Qe | apply Qf | apply Qg | apply Qh | apply Qi | exact QA | exact QP | refine QG ?_ | apply Qj | apply Qk | apply Ql | apply Qm | apply Qo | apply Qp | apply Qw | apply Qv | apply Qu | apply Qt | apply Qs | apply Qr | apply Qq | apply Qx | apply wrapS | apply Qy | (with_reducible exact lenNil) | apply Eq.refl)) | ((with_reducible first | apply Y1 | apply Y2 | apply Y3 | show blkEq _ _ _); conv => whnf))
  all_goals try (apply thR_no; rintro ⟨a, b, c, d, e, f⟩; have a := placeF_iff.1 a; have f := stF_iff.1 f; simp only at *; omega)
  apply LoopP.up (G := Nat) (fun k => k ≤ fs.length ∧ Up k fun i => badFr (fs.getD i default) = false) [1, 38, 39, 40] (fun k => [(40, .i k)]) (fun _ => []) 1 (fun k => fs.length - k)
  apply And.intro
  · refine CutE.at 0 ?_
    repeat' (first | exact @id (emp _ = true) | (intro h; first | exact Bool.noConfusion h | (simp only [Qn] at h) | skip) | ((conv => whnf) <;> (first | exact trivial | apply Qa | apply And.intro | apply Qb | apply Qc | apply Qd | apply Qe | apply Qf | apply Qg | apply Qh | apply Qi | exact QA | exact QP | refine QG ?_ | apply Qj | apply Qk | apply Ql | apply Qm | apply Qo | apply Qp | apply Qw | apply Qv | apply Qu | apply Qt | apply Qs | apply Qr | apply Qq | apply Qx | apply wrapS | apply Qy | (with_reducible exact lenNil) | apply Eq.refl)) | ((with_reducible first | apply Y1 | apply Y2 | apply Y3 | show blkEq _ _ _); conv => whnf))
    all_goals try simp only [Int.toNat_natCast, Int.toNat_zero, ge_iff_le, gt_iff_lt, Int.ofNat_le, Int.ofNat_lt, Int.ofNat_inj] at *
    all_goals first
      | omega
      | (dsimp only; omega)
      | assumption
      | exact Up.zero _
      | (show ((8 : Nat) : Int) * _ ≤ _; omega)
      | (show _ * (8 : Nat) ≤ _; omega)
      | (show _ * (16 : Nat) ≤ _; omega)
      | (show _ * (24 : Nat) ≤ _; omega)
      | trace_state
  · intro k ⟨hk, hu⟩
    repeat' (first | exact @id (emp _ = true) | (intro h; first | exact Bool.noConfusion h | (simp only [Qn] at h) | skip) | ((conv => whnf) <;> (first | exact trivial | apply Qa | apply And.intro | refine CutE.at (A := Nat) (k + 1) ?_ | apply Qb | apply Qc | apply Qd | apply Qe | apply Qf | apply Qg | apply Qh | apply Qi | exact QA | exact QP | refine QG ?_ | apply Qj | apply Qk | apply Ql | apply Qm | apply Qo | apply Qp | apply Qw | apply Qv | apply Qu | apply Qt | apply Qs | apply Qr | apply Qq | apply Qx | apply wrapS | apply Qy | (with_reducible exact lenNil) | apply Eq.refl)) | ((with_reducible first | apply Y1 | apply Y2 | apply Y3 | show blkEq _ _ _); conv => whnf))
    all_goals try simp only [Int.toNat_natCast] at *
    all_goals try first
      | omega
      | (apply thR_no; rintro ⟨a, b, c, d, e, f⟩
         have hx : fs.any badFr = true := any_atW (j := k) (by omega) (badFr_t (by omega))
         exact Bool.noConfusion (d.symm.trans hx))
      | (apply hu.succ; apply badFr_f; omega)
    have hfs : fs.any badFr = false := any_upW (j := k) (by omega) hu
    apply LoopP.up (G := Nat × Unit) (fun s => s.1 ≤ lf.length ∧ Up s.1 fun i => badN (lf.getD i default) = false) [1, 54, 55, 56] (fun s => [(56, .i s.1)]) (fun _ => []) 1 (fun s => lf.length - s.1)
    apply And.intro
    · refine CutE.at (0, ()) ?_
      repeat' (first | exact @id (emp _ = true) | (intro h; first | exact Bool.noConfusion h | (simp only [Qn] at h) | skip) | ((conv => whnf) <;> (first | exact trivial | apply Qa | apply And.intro | apply Qb | apply Qc | apply Qd | apply Qe | apply Qf | apply Qg | apply Qh | apply Qi | exact QA | exact QP | refine QG ?_ | apply Qj | apply Qk | apply Ql | apply Qm | apply Qo | apply Qp | apply Qw | apply Qv | apply Qu | apply Qt | apply Qs | apply Qr | apply Qq | apply Qx | apply wrapS | apply Qy | (with_reducible exact lenNil) | apply Eq.refl)) | ((with_reducible first | apply Y1 | apply Y2 | apply Y3 | show blkEq _ _ _); conv => whnf))
      all_goals try simp only [Int.toNat_natCast, Int.toNat_zero, ge_iff_le, gt_iff_lt, Int.ofNat_le, Int.ofNat_lt, Int.ofNat_inj] at *
      all_goals first
        | omega
        | (dsimp only; omega)
        | assumption
        | exact Up.zero _
        | (show ((8 : Nat) : Int) * _ ≤ _; omega)
        | (show _ * (8 : Nat) ≤ _; omega)
        | (show _ * (16 : Nat) ≤ _; omega)
        | (show _ * (24 : Nat) ≤ _; omega)
        | trace_state
    · rintro ⟨j, _⟩ ⟨hj, hv⟩
      have hj : j ≤ lf.length := hj
      repeat' (first | exact @id (emp _ = true) | (intro h; first | exact Bool.noConfusion h | (simp only [Qn] at h) | skip) | ((conv => whnf) <;> (first | exact trivial | apply Qa | apply And.intro | refine CutE.at (A := Nat × Unit) (j + 1, ()) ?_ | apply Qb | apply Qc | apply Qd | apply Qe | apply Qf | apply Qg | apply Qh | apply Qi | exact QA | exact QP | refine QG ?_ | apply Qj | apply Qk | apply Ql | apply Qm | apply Qo | apply Qp | apply Qw | apply Qv | apply Qu | apply Qt | apply Qs | apply Qr | apply Qq | apply Qx | apply wrapS | apply Qy | (with_reducible exact lenNil) | apply Eq.refl)) | ((with_reducible first | apply Y1 | apply Y2 | apply Y3 | show blkEq _ _ _); conv => whnf))
      all_goals try simp only [Int.toNat_natCast] at *
      all_goals try first
        | omega
        | (show lf.length - (j + 1) < lf.length - j; omega)
        | (show j + 1 ≤ lf.length; omega)
        | (apply thR_no; rintro ⟨a, b, c, d, e, f⟩
           have hx : lf.any badN = true := any_atW (j := j) (by omega) (badN_t (by omega))
           exact Bool.noConfusion (e.symm.trans hx))
        | (apply hv.succ; apply badN_f; omega)
        | (have hlf : lf.any badN = false := any_upW (j := j) (by omega) hv
           rw [thR_st (placeF_iff.2 (by simp only; omega)) (by simp only; omega) (by simp only; omega) hfs hlf]
           show stF st fa = _
           first
            | (rw [Bool.eq_iff_iff, stF_iff]; simp only [beq_iff_eq, decide_eq_true_eq]; omega)
            | (apply decide_eq_false; omega))
      all_goals trace_state
end Go.Eng
namespace Go.Eng
open Go Go.Proofs
def thEq (t u : Th) : Bool := decide (t = u)
theorem frT_eq {f g : FrT} (h1 : f.back = g.back) (h2 : f.k0 = g.k0) (h3 : f.k1 = g.k1) (h4 : f.k2 = g.k2) (h5 : f.k3 = g.k3) : f = g := by
  cases f; cases g; simp_all
def sThSame : FSpec := spec (Th × Th) (fun (t, u) => [.agg (thW t), .agg (thW u)]) (fun (t, u) => SmallT t ∧ SmallT u) fun (t, u) => .b (thEq t u)
set_option maxHeartbeats 4000000 in
set_option maxRecDepth 100000 in
theorem thSame_ok : Meets Tryz.prog 13 sThSame := by
  refine meets_plain (gok_cons ints_ok (gok_nil _) : GOK Tryz.prog (tab [(42, sInts)])) rfl [] (fn := Tryz.f13) rfl rfl rfl (by decide) fun ⟨⟨pc, r0, r1, r2, r3, r4, r5, r6, r7, fs, st, fa, lf⟩, ⟨pc', r0', r1', r2', r3', r4', r5', r6', r7', fs', st', fa', lf'⟩⟩ ⟨⟨h1, h2⟩, h3, h4⟩ => ?_
  have h1 : fs.length ≤ 1000000 := h1
  have h2 : lf.length ≤ 1000000 := h2
  repeat' (first | exact @id (emp _ = true) | (intro h; first | exact Bool.noConfusion h | (simp only [Qn] at h) | skip) | ((conv => whnf) <;> (first | exact trivial | apply Qa | apply And.intro | apply Qb | apply Qc | apply Qd | apply Qe | apply Qf | apply Qg | apply Qh | apply Qi | exact QA | exact QP | refine QG ?_ | apply Qj | apply Qk | apply Ql | apply Qm | apply Qo | apply Qp | apply Qw | apply Qv | apply Qu | apply Qt | apply Qs | apply Qr | apply Qq | apply Qx | apply wrapS | apply Qy | (with_reducible exact lenNil) | apply Eq.refl)) | ((with_reducible first | apply Y1 | apply Y2 | apply Y3 | show blkEq _ _ _); conv => whnf))
  all_goals try (apply decide_eq_false; intro e; cases e; first | exact h rfl | exact h ⟨rfl, rfl, rfl, rfl, rfl, rfl, rfl, rfl⟩ | exact absurd rfl (by assumption) | omega)
  have hl : fs.length = fs'.length := by omega
  apply LoopP.up (G := Nat) (fun k => k ≤ fs.length ∧ Up k fun i => fs.getD i default = fs'.getD i default) [2, 3, 43, 44] (fun k => [(44, .i k)]) (fun _ => []) 2 (fun k => fs.length - k)
  apply And.intro
  · refine CutE.at 0 ?_
    repeat' (first | exact @id (emp _ = true) | (intro h; first | exact Bool.noConfusion h | (simp only [Qn] at h) | skip) | ((conv => whnf) <;> (first | exact trivial | apply Qa | apply And.intro | apply Qb | apply Qc | apply Qd | apply Qe | apply Qf | apply Qg | apply Qh | apply Qi | exact QA | exact QP | refine QG ?_ | apply Qj | apply Qk | apply Ql | apply Qm | apply Qo | apply Qp | apply Qw | apply Qv | apply Qu | apply Qt | apply Qs | apply Qr | apply Qq | apply Qx | apply wrapS | apply Qy | (with_reducible exact lenNil) | apply Eq.refl)) | ((with_reducible first | apply Y1 | apply Y2 | apply Y3 | show blkEq _ _ _); conv => whnf))
    all_goals try simp only [Int.toNat_natCast, Int.toNat_zero, ge_iff_le, gt_iff_lt, Int.ofNat_le, Int.ofNat_lt, Int.ofNat_inj] at *
    all_goals first
      | omega
      | (dsimp only; omega)
      | assumption
      | exact Up.zero _
      | (show ((8 : Nat) : Int) * _ ≤ _; omega)
      | (show _ * (8 : Nat) ≤ _; omega)
      | (show _ * (16 : Nat) ≤ _; omega)
      | (show _ * (24 : Nat) ≤ _; omega)
      | trace_state
  · intro k ⟨hk, hu⟩
    repeat' (first | exact @id (emp _ = true) | (intro h; first | exact Bool.noConfusion h | (simp only [Qn] at h) | skip) | ((conv => whnf) <;> (first | exact trivial | apply Qa | apply And.intro | refine CutE.at (A := Nat) (k + 1) ?_ | apply Qb | apply Qc | apply Qd | apply Qe | apply Qf | apply Qg | apply Qh | apply Qi | exact QA | exact QP | refine QG ?_ | apply Qj | apply Qk | apply Ql | apply Qm | apply Qo | apply Qp | apply Qw | apply Qv | apply Qu | apply Qt | apply Qs | apply Qr | apply Qq | apply Qx | apply wrapS | apply Qy | (with_reducible exact lenNil) | apply Eq.refl)) | ((with_reducible first | apply Y1 | apply Y2 | apply Y3 | show blkEq _ _ _); conv => whnf))
    all_goals try simp only [Int.toNat_natCast] at *
    all_goals first
      | omega
      | exact h2
      | (apply hu.succ; exact frT_eq h.1 h.2.1 h.2.2.1 h.2.2.2.1 h.2.2.2.2)
      | (apply decide_eq_false; intro e; cases e; exact h ⟨rfl, rfl, rfl, rfl, rfl⟩)
      | (apply decide_eq_false; intro e; simp only [Th.mk.injEq] at e; have e9 := e.2.2.2.2.2.2.2.2.2.1; rw [e9] at h; exact h ⟨rfl, rfl, rfl, rfl, rfl⟩)
      | (apply decide_eq_false; intro e; simp only [Th.mk.injEq] at e; have e9 := e.2.2.2.2.2.2.2.2.2.1; rw [e9] at h; exact absurd True.intro h)
      | (apply decide_eq_false; intro e; simp only [Th.mk.injEq] at e; have e9 := e.2.2.2.2.2.2.2.2.2.1; exact h (by rw [e9]; exact ⟨rfl, rfl, rfl, rfl, rfl⟩))
      | (have hf : fs = fs' := eq_of_upG hl (k := k) (by omega) hu
         show decide (_ = _) = decide (_ = _)
         congr 1
         apply propext
         constructor
         · intro e; cases e; rfl
         · intro e; simp only [Th.mk.injEq]; exact ⟨by assumption, by omega, by omega, by omega, by omega, by omega, by omega, by omega, by omega, hf, by assumption, by assumption, e⟩)
      | (rw [callF_go hh h6] at h; exact h)
      | (rw [backF_go hh h6] at h; exact h)
      | assumption
      | (split <;> exact h)
      | trace_state
end Go.Eng
namespace Go.Eng
open Go Go.Proofs
def sRCall : FSpec := spec (Th × Int) (fun (t, to) => [.agg (thC t), .i to]) (fun (t, to) => thR t = true ∧ ¬ t.pc = 1000 ∧ placeF to = true) fun (t, to) => .tup [rTh (callF t to).1, .c (.i (callF t to).2)]
set_option maxHeartbeats 4000000 in
set_option maxRecDepth 100000 in
theorem rcall_ok : Meets Tryz.prog 105 sRCall := by
  refine meets_plain (gok_nil _) rfl [] (fn := Tryz.f105) rfl rfl rfl (by decide) fun ⟨⟨pc, r0, r1, r2, r3, r4, r5, r6, r7, fs, st, fa, lf⟩, to⟩ hh => ?_
  have hh : thR ⟨pc, r0, r1, r2, r3, r4, r5, r6, r7, fs, st, fa, lf⟩ = true ∧ ¬ pc = 1000 ∧ placeF to = true := hh
  have h6' : fs.length ≤ 6 := (thR_iff.1 hh.1).2.1
  have hp : 0 ≤ pc ∧ pc ≤ 1000 := (placeF_iff.1 (thR_iff.1 hh.1).1)
  have hw : IntKind.i64.wrap (pc + 1) = pc + 1 := wrap_i64 (by omega)
  by_cases h6 : fs.length = 6
  · show bodyK Tryz.prog _ _ _ _ sRCall (⟨pc, r0, r1, r2, r3, r4, r5, r6, r7, fs, st, fa, lf⟩, to)
    have e1 : sRCall.res (⟨pc, r0, r1, r2, r3, r4, r5, r6, r7, fs, st, fa, lf⟩, to) = .tup [rTh th0, .c (.i 13)] := by show RV.tup _ = _; rw [callF_deep hh h6]
    unfold bodyK retE
    rw [e1]
    repeat' (first | exact @id (emp _ = true) | (intro h; first | exact Bool.noConfusion h | (simp only [Qn] at h) | skip) | ((conv => whnf) <;> (first | exact trivial | apply Qa | apply And.intro | apply Qb | apply Qc | apply Qd | apply Qe | apply Qf | apply Qg | apply Qh | apply Qi | exact QA | exact QP | refine QG ?_ | apply Qj | apply Qk | apply Ql | apply Qm | apply Qo | apply Qp | apply Qw | apply Qv | apply Qu | apply Qt | apply Qs | apply Qr | apply Qq | apply Qx | apply wrapS | apply Qy | (with_reducible exact lenNil) | apply Eq.refl)) | ((with_reducible first | apply Y1 | apply Y2 | apply Y3 | show blkEq _ _ _); conv => whnf))
    all_goals first | omega | trace_state
  · show bodyK Tryz.prog _ _ _ _ sRCall (⟨pc, r0, r1, r2, r3, r4, r5, r6, r7, fs, st, fa, lf⟩, to)
    have e1 : sRCall.res (⟨pc, r0, r1, r2, r3, r4, r5, r6, r7, fs, st, fa, lf⟩, to) = .tup [rTh ⟨to, r0, r1, r2, r3, r4, r5, r6, r7, fs ++ [⟨pc + 1, r4, r5, r6, r7⟩], st, fa, lf⟩, .c (.i 0)] := by show RV.tup _ = _; rw [callF_go hh h6]
    unfold bodyK retE
    rw [e1]
    clear e1 hh
    repeat' (first | exact @id (emp _ = true) | (intro h; first | exact Bool.noConfusion h | (simp only [Qn] at h) | skip) | ((conv => whnf) <;> (first | exact trivial | apply Qa | apply And.intro | apply Qb | apply Qc | apply Qd | apply Qe | apply Qf | apply Qg | apply Qh | apply Qi | exact QA | exact QP | refine QG ?_ | apply Qj | apply Qk | apply Ql | apply Qm | apply Qo | apply Qp | apply Qw | apply Qv | apply Qu | apply Qt | apply Qs | apply Qr | apply Qq | apply Qx | apply wrapS | apply Qy | (with_reducible exact lenNil) | apply Eq.refl)) | ((with_reducible first | apply Y1 | apply Y2 | apply Y3 | show blkEq _ _ _); conv => whnf))
    all_goals try simp only at *
    all_goals first
      | (exfalso; omega)
      | omega
      | (show (0 + fs.length) * 40 ≤ _; omega)
      | (show (0 + fs.length + 1) * 40 ≤ _; omega)
      | (rw [List.length_append]; simp only [List.length_cons, List.length_nil]; omega)
      | (rename_i i hi t
         have e0 : ∀ i t, catG 0 (litG (Tryz.prog.types[83].size) []) (slG encFr fs) i t = slG encFr fs i t := fun i t => by simp [catG]
         have e1 : catG 0 (litG (Tryz.prog.types[83].size) []) (slG encFr fs) = slG encFr fs := funext fun i => funext fun t => e0 i t
         rw [e1, Nat.zero_add]
         have key := (slG_snoc (enc := encFr) (l := fs) (k := 5) (n := fs.length) (x := ⟨pc + 1, r4, r5, r6, r7⟩) rfl rfl i (by simpa using hi) t h).symm
         have e : encFr ⟨pc + 1, r4, r5, r6, r7⟩ = [.i (IntKind.i64.wrap (pc + 1)), .i r4, .i r5, .i r6, .i r7] := congrArg (fun z => [Cell.i z, .i r4, .i r5, .i r6, .i r7]) hw.symm
         rw [e] at key
         exact key)
      | (rw [callF_go hh h6] at h; exact h)
      | (rw [backF_go hh h6] at h; exact h)
      | assumption
      | (split <;> exact h)
      | trace_state
def sRBack : FSpec := spec Th (fun t => [.agg (thC t)]) (fun t => thR t = true) fun t => .tup [rTh (backF t).1, .c (.i (backF t).2)]
set_option maxHeartbeats 4000000 in
set_option maxRecDepth 100000 in
theorem rback_ok : Meets Tryz.prog 106 sRBack := by
  refine meets_plain (gok_nil _) rfl [] (fn := Tryz.f106) rfl rfl rfl (by decide) fun ⟨pc, r0, r1, r2, r3, r4, r5, r6, r7, fs, st, fa, lf⟩ hh => ?_
  have hh : thR ⟨pc, r0, r1, r2, r3, r4, r5, r6, r7, fs, st, fa, lf⟩ = true := hh
  have h6' : fs.length ≤ 6 := (thR_iff.1 hh).2.1
  have hw : ¬ fs.length = 0 → IntKind.i64.wrap ((fs.length : Int) - 1) = ((fs.length - 1 : Nat) : Int) := fun h => by rw [wrap_i64 (by omega)]; omega
  by_cases h6 : fs.length = 0
  · show bodyK Tryz.prog _ _ _ _ sRBack ⟨pc, r0, r1, r2, r3, r4, r5, r6, r7, fs, st, fa, lf⟩
    have e1 : sRBack.res ⟨pc, r0, r1, r2, r3, r4, r5, r6, r7, fs, st, fa, lf⟩ = .tup [rTh th0, .c (.i 8)] := by show RV.tup _ = _; rw [backF_none hh h6]
    unfold bodyK retE
    rw [e1]
    repeat' (first | exact @id (emp _ = true) | (intro h; first | exact Bool.noConfusion h | (simp only [Qn] at h) | skip) | ((conv => whnf) <;> (first | exact trivial | apply Qa | apply And.intro | apply Qb | apply Qc | apply Qd | apply Qe | apply Qf | apply Qg | apply Qh | apply Qi | exact QA | exact QP | refine QG ?_ | apply Qj | apply Qk | apply Ql | apply Qm | apply Qo | apply Qp | apply Qw | apply Qv | apply Qu | apply Qt | apply Qs | apply Qr | apply Qq | apply Qx | apply wrapS | apply Qy | (with_reducible exact lenNil) | apply Eq.refl)) | ((with_reducible first | apply Y1 | apply Y2 | apply Y3 | show blkEq _ _ _); conv => whnf))
    all_goals first | omega | trace_state
  · have hw := hw h6
    show bodyK Tryz.prog _ _ _ _ sRBack ⟨pc, r0, r1, r2, r3, r4, r5, r6, r7, fs, st, fa, lf⟩
    have e1 : sRBack.res ⟨pc, r0, r1, r2, r3, r4, r5, r6, r7, fs, st, fa, lf⟩ = .tup [rTh ⟨(fs.getD (fs.length - 1) default).back, r0, r1, r2, r3, (fs.getD (fs.length - 1) default).k0, (fs.getD (fs.length - 1) default).k1, (fs.getD (fs.length - 1) default).k2, (fs.getD (fs.length - 1) default).k3, fs.take (fs.length - 1), st, fa, lf⟩, .c (.i 0)] := by show RV.tup _ = _; rw [backF_go hh h6]
    unfold bodyK retE
    rw [e1]
    clear e1 hh
    repeat' (first | exact @id (emp _ = true) | (intro h; first | exact Bool.noConfusion h | (simp only [Qn] at h) | skip) | ((conv => whnf) <;> (first | exact trivial | apply Qa | apply And.intro | apply Qb | apply Qc | apply Qd | apply Qe | apply Qf | apply Qg | apply Qh | apply Qi | exact QA | exact QP | refine QG ?_ | apply Qj | apply Qk | apply Ql | apply Qm | apply Qo | apply Qp | apply Qw | apply Qv | apply Qu | apply Qt | apply Qs | apply Qr | apply Qq | apply Qx | apply wrapS | apply Qy | (with_reducible exact lenNil) | apply Eq.refl)) | ((with_reducible first | apply Y1 | apply Y2 | apply Y3 | show blkEq _ _ _); conv => whnf))
    all_goals try simp only [hw, Int.toNat_natCast] at *
    all_goals first
      | (exfalso; omega)
      | omega
      | (show (0 + _) * 40 ≤ _; omega)
      | (rw [List.length_take]; omega)
      | (rename_i i hi t _
         have hi : i < (fs.take (fs.length - 1)).length := hi
         rw [List.length_take] at hi
         unfold catG
         rw [if_neg (Nat.not_lt_zero _), slG_take _ _ _ _ (by omega)]
         show slG encFr fs i t = slG encFr fs (0 + (i - 0)) t
         rw [Nat.sub_zero, Nat.zero_add])
      | (rw [callF_go hh h6] at h; exact h)
      | (rw [backF_go hh h6] at h; exact h)
      | assumption
      | (split <;> exact h)
      | trace_state
def F6 : List (Nat × FSpec) := (119, sCall) :: (120, sBackF) :: F5
theorem F6_ok : GOK Tryz.prog (tab F6) := gok_cons call_ok (gok_cons backF_ok F5_ok)
end Go.Eng
