/- A part of the walks, and of the machine that proves them (StHl). -/
import Derived.Test.YtgahcoccodhkmaaGreatStG
set_option linter.unusedVariables false
set_option linter.unusedSimpArgs false
namespace Go.Eng
open Go Go.Proofs
def sLock8 : FSpec := spec (Wd × Int × Ins) (fun (w, i, x) => [.s (rWd w), .i i, .agg (encIns x)]) (fun (w, i, x) => WOk w i ∧ (thOf w i).pc < w.code.length ∧ (x.1 = 19 ∨ x.1 = 20 ∨ x.1 = 21) ∧ Reg x.2.1 ∧ Reg x.2.2.1 ∧ (x.1 = 19 → Reg x.2.2.2)) fun (w, i, x) => .s (rWd (finW w i (lockP w i x)))
set_option maxHeartbeats 1000000 in
set_option maxRecDepth 100000 in
theorem lock8_ok : Meets Tryz.prog 61 sLock8 := by
  refine meets_plain H1_ok rfl [] (fn := Tryz.f61) rfl rfl rfl (by decide) fun ⟨w, i, op, a, b, c⟩ ⟨ho, hp, hop, ha, hb, hc⟩ => ?_
  have hh := ho.h
  have hlen := world_len ho.r
  have hF := ho.hasF
  have hm := ho.mem
  have hpc : (w.th.getD i.toNat default).pc + 1 = IntKind.i64.wrap ((w.th.getD i.toNat default).pc + 1) := pc_wrap ho hp
  have hhas : hasW w i = true := decide_eq_true hh
  have ha : 0 ≤ a ∧ a ≤ 7 := ha
  have hb : 0 ≤ b ∧ b ≤ 7 := hb
  rcases hop with rfl | rfl | rfl
  · have hc : 0 ≤ c ∧ c ≤ 7 := hc rfl
    have hkw : IntKind.i64.wrap ((19, a, b, c).1 - 19) = 0 := by show IntKind.i64.wrap (19 - 19) = 0; decide
    have hk : lkOf w i (19, a, b, c) = lockT (tsoOf w) i (IntKind.i64.wrap (19 - 19)) (getR (thOf w i) b) (getR (thOf w i) a) (getR (thOf w i) c) := by show lockT _ _ (19 - 19) _ _ (if (19 : Int) = 19 then _ else _) = _; rw [show IntKind.i64.wrap (19 - 19) = 19 - 19 from by decide, if_pos rfl]
    by_cases he : ((lockT (tsoOf w) i (IntKind.i64.wrap (19 - 19)) (getR (thOf w i) b) (getR (thOf w i) a) (getR (thOf w i) c)).2.2) = 0
    · have e1 : sLock8.res (w, i, 19, a, b, c) = .s (rWd (putW (setM w (lockT (tsoOf w) i (IntKind.i64.wrap (19 - 19)) (getR (thOf w i) b) (getR (thOf w i) a) (getR (thOf w i) c)).1) i (nextT (setRg (thOf w i) a (lockT (tsoOf w) i (IntKind.i64.wrap (19 - 19)) (getR (thOf w i) b) (getR (thOf w i) a) (getR (thOf w i) c)).2.1)))) := by show RV.s (rWd (finW w i (putW (setM w (lkOf w i (19, a, b, c)).1) i (nextT (setRg (thOf w i) a (lkOf w i (19, a, b, c)).2.1)), (lkOf w i (19, a, b, c)).2.2))) = _; rw [hk]; rw [finW_ok (p := (_, _)) he]
      show bodyK Tryz.prog _ _ _ _ sLock8 (w, i, 19, a, b, c)
      unfold bodyK retE
      rw [e1]
      clear e1
      repeat' (first | exact @id (emp _ = true) | (intro h; first | exact Bool.noConfusion h | (simp only [Qn] at h) | skip) | ((conv => whnf) <;> (first | exact trivial | apply Qa | apply And.intro | exact absurd hkw (by assumption) | exact absurd he (by assumption) | (refine CutE.at (A := List Int × List Int × Int × List (List Put) × Int × Int × Int × Int × Int) (w.ws, w.ts, w.d, w.l, i, IntKind.i64.wrap (19 - 19), getR (thOf w i) b, getR (thOf w i) a, getR (thOf w i) c) ?_) | apply CutE.goR8 | (refine CutE.at (A := Wd × Int × Th) (setM w (lockT (tsoOf w) i (IntKind.i64.wrap (19 - 19)) (getR (thOf w i) b) (getR (thOf w i) a) (getR (thOf w i) c)).1, i, nextT (setRg (thOf w i) a (lockT (tsoOf w) i (IntKind.i64.wrap (19 - 19)) (getR (thOf w i) b) (getR (thOf w i) a) (getR (thOf w i) c)).2.1)) ?_) | apply Qb | apply Qc | apply Qd | apply Qe | apply Qf | apply Qg | apply Qh | apply Qi | exact QA | exact QP | refine QG ?_ | apply Qj | apply Qk | apply Ql | apply Qm | apply Qo | apply Qp | apply Qw | apply Qv | apply Qu | apply Qt | apply Qs | apply Qr | apply Qq | apply Qx | apply wrapS | apply Qy | (with_reducible exact lenNil) | apply Eq.refl)) | ((with_reducible first | apply Y1 | apply Y2 | apply Y3 | show blkEq _ _ _); conv => whnf))
      all_goals first
        | omega
        | exact hF
        | exact hhas
        | exact hpc
        | exact absurd he h
        | exact absurd h he
        | exact hF2
        | decide
        | (show w.th.length ≤ 1000000; omega)
        | (show (_ : Int) ≤ _; omega)
        | (show (_ : Int) < _; omega)
        | exact ⟨hF, by omega, by omega⟩
        | exact ⟨hm, hop⟩
        | exact hm
        | exact Or.inl rfl
        | exact Or.inr rfl
        | (refine ⟨hF, ?_, ?_⟩ <;> decide)
        | exact absurd he (by assumption)
        | exact absurd (by assumption) he
        | trace_state
    · have e1 : sLock8.res (w, i, 19, a, b, c) = .s (rWd (putW w i (faultT (thOf w i) ((lockT (tsoOf w) i (IntKind.i64.wrap (19 - 19)) (getR (thOf w i) b) (getR (thOf w i) a) (getR (thOf w i) c)).2.2)))) := by show RV.s (rWd (finW w i (putW (setM w (lkOf w i (19, a, b, c)).1) i (nextT (setRg (thOf w i) a (lkOf w i (19, a, b, c)).2.1)), (lkOf w i (19, a, b, c)).2.2))) = _; rw [hk]; rw [finW_bad (p := (_, _)) he]
      show bodyK Tryz.prog _ _ _ _ sLock8 (w, i, 19, a, b, c)
      unfold bodyK retE
      rw [e1]
      clear e1
      repeat' (first | exact @id (emp _ = true) | (intro h; first | exact Bool.noConfusion h | (simp only [Qn] at h) | skip) | ((conv => whnf) <;> (first | exact trivial | apply Qa | apply And.intro | exact absurd hkw (by assumption) | exact absurd (by assumption) he | (refine CutE.at (A := List Int × List Int × Int × List (List Put) × Int × Int × Int × Int × Int) (w.ws, w.ts, w.d, w.l, i, IntKind.i64.wrap (19 - 19), getR (thOf w i) b, getR (thOf w i) a, getR (thOf w i) c) ?_) | apply CutE.goR8 | (refine CutE.at (A := Wd × Int × Th) (setM w (lockT (tsoOf w) i (IntKind.i64.wrap (19 - 19)) (getR (thOf w i) b) (getR (thOf w i) a) (getR (thOf w i) c)).1, i, nextT (setRg (thOf w i) a (lockT (tsoOf w) i (IntKind.i64.wrap (19 - 19)) (getR (thOf w i) b) (getR (thOf w i) a) (getR (thOf w i) c)).2.1)) ?_) | apply Qb | apply Qc | apply Qd | apply Qe | apply Qf | apply Qg | apply Qh | apply Qi | exact QA | exact QP | refine QG ?_ | apply Qj | apply Qk | apply Ql | apply Qm | apply Qo | apply Qp | apply Qw | apply Qv | apply Qu | apply Qt | apply Qs | apply Qr | apply Qq | apply Qx | apply wrapS | apply Qy | (with_reducible exact lenNil) | apply Eq.refl)) | ((with_reducible first | apply Y1 | apply Y2 | apply Y3 | show blkEq _ _ _); conv => whnf))
      all_goals first
        | omega
        | exact hF
        | exact hhas
        | exact hpc
        | exact absurd he h
        | exact absurd h he
        | exact hF2
        | decide
        | (show w.th.length ≤ 1000000; omega)
        | (show (_ : Int) ≤ _; omega)
        | (show (_ : Int) < _; omega)
        | exact ⟨hF, by omega, by omega⟩
        | exact ⟨hm, hop⟩
        | exact hm
        | exact Or.inl rfl
        | exact Or.inr rfl
        | (refine ⟨hF, ?_, ?_⟩ <;> decide)
        | exact absurd he (by assumption)
        | exact absurd (by assumption) he
        | trace_state
  · have hkw : ¬ IntKind.i64.wrap ((20, a, b, c).1 - 19) = 0 := by show ¬ IntKind.i64.wrap (20 - 19) = 0; decide
    have hk : lkOf w i (20, a, b, c) = lockT (tsoOf w) i (IntKind.i64.wrap (20 - 19)) (getR (thOf w i) b) (getR (thOf w i) a) 0 := by show lockT _ _ (20 - 19) _ _ (if (20 : Int) = 19 then _ else _) = _; rw [show IntKind.i64.wrap (20 - 19) = 20 - 19 from by decide, if_neg (by decide)]
    by_cases he : ((lockT (tsoOf w) i (IntKind.i64.wrap (20 - 19)) (getR (thOf w i) b) (getR (thOf w i) a) 0).2.2) = 0
    · have e1 : sLock8.res (w, i, 20, a, b, c) = .s (rWd (putW (setM w (lockT (tsoOf w) i (IntKind.i64.wrap (20 - 19)) (getR (thOf w i) b) (getR (thOf w i) a) 0).1) i (nextT (setRg (thOf w i) a (lockT (tsoOf w) i (IntKind.i64.wrap (20 - 19)) (getR (thOf w i) b) (getR (thOf w i) a) 0).2.1)))) := by show RV.s (rWd (finW w i (putW (setM w (lkOf w i (20, a, b, c)).1) i (nextT (setRg (thOf w i) a (lkOf w i (20, a, b, c)).2.1)), (lkOf w i (20, a, b, c)).2.2))) = _; rw [hk]; rw [finW_ok (p := (_, _)) he]
      show bodyK Tryz.prog _ _ _ _ sLock8 (w, i, 20, a, b, c)
      unfold bodyK retE
      rw [e1]
      clear e1
      repeat' (first | exact @id (emp _ = true) | (intro h; first | exact Bool.noConfusion h | (simp only [Qn] at h) | skip) | ((conv => whnf) <;> (first | exact trivial | apply Qa | apply And.intro | exact absurd (by assumption) hkw | exact absurd he (by assumption) | (refine CutE.at (A := List Int × List Int × Int × List (List Put) × Int × Int × Int × Int × Int) (w.ws, w.ts, w.d, w.l, i, IntKind.i64.wrap (20 - 19), getR (thOf w i) b, getR (thOf w i) a, 0) ?_) | apply CutE.goR8 | (refine CutE.at (A := Wd × Int × Th) (setM w (lockT (tsoOf w) i (IntKind.i64.wrap (20 - 19)) (getR (thOf w i) b) (getR (thOf w i) a) 0).1, i, nextT (setRg (thOf w i) a (lockT (tsoOf w) i (IntKind.i64.wrap (20 - 19)) (getR (thOf w i) b) (getR (thOf w i) a) 0).2.1)) ?_) | apply Qb | apply Qc | apply Qd | apply Qe | apply Qf | apply Qg | apply Qh | apply Qi | exact QA | exact QP | refine QG ?_ | apply Qj | apply Qk | apply Ql | apply Qm | apply Qo | apply Qp | apply Qw | apply Qv | apply Qu | apply Qt | apply Qs | apply Qr | apply Qq | apply Qx | apply wrapS | apply Qy | (with_reducible exact lenNil) | apply Eq.refl)) | ((with_reducible first | apply Y1 | apply Y2 | apply Y3 | show blkEq _ _ _); conv => whnf))
      all_goals first
        | omega
        | exact hF
        | exact hhas
        | exact hpc
        | exact absurd he h
        | exact absurd h he
        | exact hF2
        | decide
        | (show w.th.length ≤ 1000000; omega)
        | (show (_ : Int) ≤ _; omega)
        | (show (_ : Int) < _; omega)
        | exact ⟨hF, by omega, by omega⟩
        | exact ⟨hm, hop⟩
        | exact hm
        | exact Or.inl rfl
        | exact Or.inr rfl
        | (refine ⟨hF, ?_, ?_⟩ <;> decide)
        | exact absurd he (by assumption)
        | exact absurd (by assumption) he
        | trace_state
    · have e1 : sLock8.res (w, i, 20, a, b, c) = .s (rWd (putW w i (faultT (thOf w i) ((lockT (tsoOf w) i (IntKind.i64.wrap (20 - 19)) (getR (thOf w i) b) (getR (thOf w i) a) 0).2.2)))) := by show RV.s (rWd (finW w i (putW (setM w (lkOf w i (20, a, b, c)).1) i (nextT (setRg (thOf w i) a (lkOf w i (20, a, b, c)).2.1)), (lkOf w i (20, a, b, c)).2.2))) = _; rw [hk]; rw [finW_bad (p := (_, _)) he]
      show bodyK Tryz.prog _ _ _ _ sLock8 (w, i, 20, a, b, c)
      unfold bodyK retE
      rw [e1]
      clear e1
      repeat' (first | exact @id (emp _ = true) | (intro h; first | exact Bool.noConfusion h | (simp only [Qn] at h) | skip) | ((conv => whnf) <;> (first | exact trivial | apply Qa | apply And.intro | exact absurd (by assumption) hkw | exact absurd (by assumption) he | (refine CutE.at (A := List Int × List Int × Int × List (List Put) × Int × Int × Int × Int × Int) (w.ws, w.ts, w.d, w.l, i, IntKind.i64.wrap (20 - 19), getR (thOf w i) b, getR (thOf w i) a, 0) ?_) | apply CutE.goR8 | (refine CutE.at (A := Wd × Int × Th) (setM w (lockT (tsoOf w) i (IntKind.i64.wrap (20 - 19)) (getR (thOf w i) b) (getR (thOf w i) a) 0).1, i, nextT (setRg (thOf w i) a (lockT (tsoOf w) i (IntKind.i64.wrap (20 - 19)) (getR (thOf w i) b) (getR (thOf w i) a) 0).2.1)) ?_) | apply Qb | apply Qc | apply Qd | apply Qe | apply Qf | apply Qg | apply Qh | apply Qi | exact QA | exact QP | refine QG ?_ | apply Qj | apply Qk | apply Ql | apply Qm | apply Qo | apply Qp | apply Qw | apply Qv | apply Qu | apply Qt | apply Qs | apply Qr | apply Qq | apply Qx | apply wrapS | apply Qy | (with_reducible exact lenNil) | apply Eq.refl)) | ((with_reducible first | apply Y1 | apply Y2 | apply Y3 | show blkEq _ _ _); conv => whnf))
      all_goals first
        | omega
        | exact hF
        | exact hhas
        | exact hpc
        | exact absurd he h
        | exact absurd h he
        | exact hF2
        | decide
        | (show w.th.length ≤ 1000000; omega)
        | (show (_ : Int) ≤ _; omega)
        | (show (_ : Int) < _; omega)
        | exact ⟨hF, by omega, by omega⟩
        | exact ⟨hm, hop⟩
        | exact hm
        | exact Or.inl rfl
        | exact Or.inr rfl
        | (refine ⟨hF, ?_, ?_⟩ <;> decide)
        | exact absurd he (by assumption)
        | exact absurd (by assumption) he
        | trace_state
  · have hkw : ¬ IntKind.i64.wrap ((21, a, b, c).1 - 19) = 0 := by show ¬ IntKind.i64.wrap (21 - 19) = 0; decide
    have hk : lkOf w i (21, a, b, c) = lockT (tsoOf w) i (IntKind.i64.wrap (21 - 19)) (getR (thOf w i) b) (getR (thOf w i) a) 0 := by show lockT _ _ (21 - 19) _ _ (if (21 : Int) = 19 then _ else _) = _; rw [show IntKind.i64.wrap (21 - 19) = 21 - 19 from by decide, if_neg (by decide)]
    by_cases he : ((lockT (tsoOf w) i (IntKind.i64.wrap (21 - 19)) (getR (thOf w i) b) (getR (thOf w i) a) 0).2.2) = 0
    · have e1 : sLock8.res (w, i, 21, a, b, c) = .s (rWd (putW (setM w (lockT (tsoOf w) i (IntKind.i64.wrap (21 - 19)) (getR (thOf w i) b) (getR (thOf w i) a) 0).1) i (nextT (setRg (thOf w i) a (lockT (tsoOf w) i (IntKind.i64.wrap (21 - 19)) (getR (thOf w i) b) (getR (thOf w i) a) 0).2.1)))) := by show RV.s (rWd (finW w i (putW (setM w (lkOf w i (21, a, b, c)).1) i (nextT (setRg (thOf w i) a (lkOf w i (21, a, b, c)).2.1)), (lkOf w i (21, a, b, c)).2.2))) = _; rw [hk]; rw [finW_ok (p := (_, _)) he]
      show bodyK Tryz.prog _ _ _ _ sLock8 (w, i, 21, a, b, c)
      unfold bodyK retE
      rw [e1]
      clear e1
      repeat' (first | exact @id (emp _ = true) | (intro h; first | exact Bool.noConfusion h | (simp only [Qn] at h) | skip) | ((conv => whnf) <;> (first | exact trivial | apply Qa | apply And.intro | exact absurd (by assumption) hkw | exact absurd he (by assumption) | (refine CutE.at (A := List Int × List Int × Int × List (List Put) × Int × Int × Int × Int × Int) (w.ws, w.ts, w.d, w.l, i, IntKind.i64.wrap (21 - 19), getR (thOf w i) b, getR (thOf w i) a, 0) ?_) | apply CutE.goR8 | (refine CutE.at (A := Wd × Int × Th) (setM w (lockT (tsoOf w) i (IntKind.i64.wrap (21 - 19)) (getR (thOf w i) b) (getR (thOf w i) a) 0).1, i, nextT (setRg (thOf w i) a (lockT (tsoOf w) i (IntKind.i64.wrap (21 - 19)) (getR (thOf w i) b) (getR (thOf w i) a) 0).2.1)) ?_) | apply Qb | apply Qc | apply Qd | apply Qe | apply Qf | apply Qg | apply Qh | apply Qi | exact QA | exact QP | refine QG ?_ | apply Qj | apply Qk | apply Ql | apply Qm | apply Qo | apply Qp | apply Qw | apply Qv | apply Qu | apply Qt | apply Qs | apply Qr | apply Qq | apply Qx | apply wrapS | apply Qy | (with_reducible exact lenNil) | apply Eq.refl)) | ((with_reducible first | apply Y1 | apply Y2 | apply Y3 | show blkEq _ _ _); conv => whnf))
      all_goals first
        | omega
        | exact hF
        | exact hhas
        | exact hpc
        | exact absurd he h
        | exact absurd h he
        | exact hF2
        | decide
        | (show w.th.length ≤ 1000000; omega)
        | (show (_ : Int) ≤ _; omega)
        | (show (_ : Int) < _; omega)
        | exact ⟨hF, by omega, by omega⟩
        | exact ⟨hm, hop⟩
        | exact hm
        | exact Or.inl rfl
        | exact Or.inr rfl
        | (refine ⟨hF, ?_, ?_⟩ <;> decide)
        | exact absurd he (by assumption)
        | exact absurd (by assumption) he
        | trace_state
    · have e1 : sLock8.res (w, i, 21, a, b, c) = .s (rWd (putW w i (faultT (thOf w i) ((lockT (tsoOf w) i (IntKind.i64.wrap (21 - 19)) (getR (thOf w i) b) (getR (thOf w i) a) 0).2.2)))) := by show RV.s (rWd (finW w i (putW (setM w (lkOf w i (21, a, b, c)).1) i (nextT (setRg (thOf w i) a (lkOf w i (21, a, b, c)).2.1)), (lkOf w i (21, a, b, c)).2.2))) = _; rw [hk]; rw [finW_bad (p := (_, _)) he]
      show bodyK Tryz.prog _ _ _ _ sLock8 (w, i, 21, a, b, c)
      unfold bodyK retE
      rw [e1]
      clear e1
      repeat' (first | exact @id (emp _ = true) | (intro h; first | exact Bool.noConfusion h | (simp only [Qn] at h) | skip) | ((conv => whnf) <;> (first | exact trivial | apply Qa | apply And.intro | exact absurd (by assumption) hkw | exact absurd (by assumption) he | (refine CutE.at (A := List Int × List Int × Int × List (List Put) × Int × Int × Int × Int × Int) (w.ws, w.ts, w.d, w.l, i, IntKind.i64.wrap (21 - 19), getR (thOf w i) b, getR (thOf w i) a, 0) ?_) | apply CutE.goR8 | (refine CutE.at (A := Wd × Int × Th) (setM w (lockT (tsoOf w) i (IntKind.i64.wrap (21 - 19)) (getR (thOf w i) b) (getR (thOf w i) a) 0).1, i, nextT (setRg (thOf w i) a (lockT (tsoOf w) i (IntKind.i64.wrap (21 - 19)) (getR (thOf w i) b) (getR (thOf w i) a) 0).2.1)) ?_) | apply Qb | apply Qc | apply Qd | apply Qe | apply Qf | apply Qg | apply Qh | apply Qi | exact QA | exact QP | refine QG ?_ | apply Qj | apply Qk | apply Ql | apply Qm | apply Qo | apply Qp | apply Qw | apply Qv | apply Qu | apply Qt | apply Qs | apply Qr | apply Qq | apply Qx | apply wrapS | apply Qy | (with_reducible exact lenNil) | apply Eq.refl)) | ((with_reducible first | apply Y1 | apply Y2 | apply Y3 | show blkEq _ _ _); conv => whnf))
      all_goals first
        | omega
        | exact hF
        | exact hhas
        | exact hpc
        | exact absurd he h
        | exact absurd h he
        | exact hF2
        | decide
        | (show w.th.length ≤ 1000000; omega)
        | (show (_ : Int) ≤ _; omega)
        | (show (_ : Int) < _; omega)
        | exact ⟨hF, by omega, by omega⟩
        | exact ⟨hm, hop⟩
        | exact hm
        | exact Or.inl rfl
        | exact Or.inr rfl
        | (refine ⟨hF, ?_, ?_⟩ <;> decide)
        | exact absurd he (by assumption)
        | exact absurd (by assumption) he
        | trace_state
end Go.Eng
