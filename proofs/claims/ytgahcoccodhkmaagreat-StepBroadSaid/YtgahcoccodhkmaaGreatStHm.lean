/- A part of the walks, and of the machine that proves them (StHm). -/
import Derived.Test.YtgahcoccodhkmaaGreatStG
set_option linter.unusedVariables false
set_option linter.unusedSimpArgs false
namespace Go.Eng
open Go Go.Proofs
def sMark8 : FSpec := spec (Wd × Int × Ins) (fun (w, i, x) => [.s (rWd w), .i i, .agg (encIns x)]) (fun (w, i, x) => WOk w i ∧ (thOf w i).pc < w.code.length ∧ (x.1 = 24 ∨ x.1 = 25) ∧ Reg x.2.1 ∧ Reg x.2.2.1) fun (w, i, x) => .s (rWd (finW w i (markP w i x)))
set_option maxHeartbeats 1000000 in
set_option maxRecDepth 100000 in
theorem mark8_ok : Meets Tryz.prog 63 sMark8 := by
  refine meets_plain H1_ok rfl [] (fn := Tryz.f63) rfl rfl rfl (by decide) fun ⟨w, i, op, a, b, c⟩ ⟨ho, hp, hop, ha, hb⟩ => ?_
  have hh := ho.h
  have hlen := world_len ho.r
  have hF := ho.hasF
  have hm := ho.mem
  have hpc : (w.th.getD i.toNat default).pc + 1 = IntKind.i64.wrap ((w.th.getD i.toNat default).pc + 1) := pc_wrap ho hp
  have hhas : hasW w i = true := decide_eq_true hh
  have ha : 0 ≤ a ∧ a ≤ 7 := ha
  have hb : 0 ≤ b ∧ b ≤ 7 := hb
  rcases hop with rfl | rfl
  · by_cases he : ((mkOf w i (24, a, b, c)).2) = 0
    · have e1 : sMark8.res (w, i, 24, a, b, c) = .s (rWd (putW (setMem w (mkOf w i (24, a, b, c)).1) i (nextT (thOf w i)))) := by show RV.s (rWd (finW _ _ _)) = _; rw [finW_ok (show (markP w i (24, a, b, c)).2 = 0 from he)]; rfl
      show bodyK Tryz.prog _ _ _ _ sMark8 (w, i, 24, a, b, c)
      unfold bodyK retE
      rw [e1]
      clear e1
      repeat' (first | exact @id (emp _ = true) | (intro h; first | exact Bool.noConfusion h | (simp only [Qn] at h) | skip) | ((conv => whnf) <;> (first | exact trivial | apply Qa | apply And.intro | apply CutE.goR8 | (refine CutE.at (A := Wd × Int × Th) (setMem w (mkOf w i (24, a, b, c)).1, i, nextT (thOf w i)) ?_) | apply Qb | apply Qc | apply Qd | apply Qe | apply Qf | apply Qg | apply Qh | apply Qi | exact QA | exact QP | refine QG ?_ | apply Qj | apply Qk | apply Ql | apply Qm | apply Qo | apply Qp | apply Qw | apply Qv | apply Qu | apply Qt | apply Qs | apply Qr | apply Qq | apply Qx | apply wrapS | apply Qy | (with_reducible exact lenNil) | apply Eq.refl)) | ((with_reducible first | apply Y1 | apply Y2 | apply Y3 | show blkEq _ _ _); conv => whnf))
      all_goals first
        | omega
        | exact hF
        | exact hhas
        | exact hpc
        | exact absurd he h
        | exact absurd h he
        | exact hF2
        | decide
        | (show w.th.length ≤ 1000000; omega)
        | (show (_ : Int) ≤ _; omega)
        | (show (_ : Int) < _; omega)
        | exact ⟨hF, by omega, by omega⟩
        | exact ⟨hm, hop⟩
        | exact hm
        | exact Or.inl rfl
        | exact Or.inr rfl
        | (refine ⟨hF, ?_, ?_⟩ <;> decide)
        | exact absurd he (by assumption)
        | exact absurd (by assumption) he
        | trace_state
    · have e1 : sMark8.res (w, i, 24, a, b, c) = .s (rWd (putW w i (faultT (thOf w i) ((mkOf w i (24, a, b, c)).2)))) := by show RV.s (rWd (finW _ _ _)) = _; rw [finW_bad (show ¬ (markP w i (24, a, b, c)).2 = 0 from he)]; rfl
      show bodyK Tryz.prog _ _ _ _ sMark8 (w, i, 24, a, b, c)
      unfold bodyK retE
      rw [e1]
      clear e1
      repeat' (first | exact @id (emp _ = true) | (intro h; first | exact Bool.noConfusion h | (simp only [Qn] at h) | skip) | ((conv => whnf) <;> (first | exact trivial | apply Qa | apply And.intro | apply CutE.goR8 | (refine CutE.at (A := Wd × Int × Th) (setMem w (mkOf w i (24, a, b, c)).1, i, nextT (thOf w i)) ?_) | apply Qb | apply Qc | apply Qd | apply Qe | apply Qf | apply Qg | apply Qh | apply Qi | exact QA | exact QP | refine QG ?_ | apply Qj | apply Qk | apply Ql | apply Qm | apply Qo | apply Qp | apply Qw | apply Qv | apply Qu | apply Qt | apply Qs | apply Qr | apply Qq | apply Qx | apply wrapS | apply Qy | (with_reducible exact lenNil) | apply Eq.refl)) | ((with_reducible first | apply Y1 | apply Y2 | apply Y3 | show blkEq _ _ _); conv => whnf))
      all_goals first
        | omega
        | exact hF
        | exact hhas
        | exact hpc
        | exact absurd he h
        | exact absurd h he
        | exact hF2
        | decide
        | (show w.th.length ≤ 1000000; omega)
        | (show (_ : Int) ≤ _; omega)
        | (show (_ : Int) < _; omega)
        | exact ⟨hF, by omega, by omega⟩
        | exact ⟨hm, hop⟩
        | exact hm
        | exact Or.inl rfl
        | exact Or.inr rfl
        | (refine ⟨hF, ?_, ?_⟩ <;> decide)
        | exact absurd he (by assumption)
        | exact absurd (by assumption) he
        | trace_state
  · by_cases he : ((mkOf w i (25, a, b, c)).2) = 0
    · have e1 : sMark8.res (w, i, 25, a, b, c) = .s (rWd (putW (setMem w (mkOf w i (25, a, b, c)).1) i (nextT (thOf w i)))) := by show RV.s (rWd (finW _ _ _)) = _; rw [finW_ok (show (markP w i (25, a, b, c)).2 = 0 from he)]; rfl
      show bodyK Tryz.prog _ _ _ _ sMark8 (w, i, 25, a, b, c)
      unfold bodyK retE
      rw [e1]
      clear e1
      repeat' (first | exact @id (emp _ = true) | (intro h; first | exact Bool.noConfusion h | (simp only [Qn] at h) | skip) | ((conv => whnf) <;> (first | exact trivial | apply Qa | apply And.intro | apply CutE.goR8 | (refine CutE.at (A := Wd × Int × Th) (setMem w (mkOf w i (25, a, b, c)).1, i, nextT (thOf w i)) ?_) | apply Qb | apply Qc | apply Qd | apply Qe | apply Qf | apply Qg | apply Qh | apply Qi | exact QA | exact QP | refine QG ?_ | apply Qj | apply Qk | apply Ql | apply Qm | apply Qo | apply Qp | apply Qw | apply Qv | apply Qu | apply Qt | apply Qs | apply Qr | apply Qq | apply Qx | apply wrapS | apply Qy | (with_reducible exact lenNil) | apply Eq.refl)) | ((with_reducible first | apply Y1 | apply Y2 | apply Y3 | show blkEq _ _ _); conv => whnf))
      all_goals first
        | omega
        | exact hF
        | exact hhas
        | exact hpc
        | exact absurd he h
        | exact absurd h he
        | exact hF2
        | decide
        | (show w.th.length ≤ 1000000; omega)
        | (show (_ : Int) ≤ _; omega)
        | (show (_ : Int) < _; omega)
        | exact ⟨hF, by omega, by omega⟩
        | exact ⟨hm, hop⟩
        | exact hm
        | exact Or.inl rfl
        | exact Or.inr rfl
        | (refine ⟨hF, ?_, ?_⟩ <;> decide)
        | exact absurd he (by assumption)
        | exact absurd (by assumption) he
        | trace_state
    · have e1 : sMark8.res (w, i, 25, a, b, c) = .s (rWd (putW w i (faultT (thOf w i) ((mkOf w i (25, a, b, c)).2)))) := by show RV.s (rWd (finW _ _ _)) = _; rw [finW_bad (show ¬ (markP w i (25, a, b, c)).2 = 0 from he)]; rfl
      show bodyK Tryz.prog _ _ _ _ sMark8 (w, i, 25, a, b, c)
      unfold bodyK retE
      rw [e1]
      clear e1
      repeat' (first | exact @id (emp _ = true) | (intro h; first | exact Bool.noConfusion h | (simp only [Qn] at h) | skip) | ((conv => whnf) <;> (first | exact trivial | apply Qa | apply And.intro | apply CutE.goR8 | (refine CutE.at (A := Wd × Int × Th) (setMem w (mkOf w i (25, a, b, c)).1, i, nextT (thOf w i)) ?_) | apply Qb | apply Qc | apply Qd | apply Qe | apply Qf | apply Qg | apply Qh | apply Qi | exact QA | exact QP | refine QG ?_ | apply Qj | apply Qk | apply Ql | apply Qm | apply Qo | apply Qp | apply Qw | apply Qv | apply Qu | apply Qt | apply Qs | apply Qr | apply Qq | apply Qx | apply wrapS | apply Qy | (with_reducible exact lenNil) | apply Eq.refl)) | ((with_reducible first | apply Y1 | apply Y2 | apply Y3 | show blkEq _ _ _); conv => whnf))
      all_goals first
        | omega
        | exact hF
        | exact hhas
        | exact hpc
        | exact absurd he h
        | exact absurd h he
        | exact hF2
        | decide
        | (show w.th.length ≤ 1000000; omega)
        | (show (_ : Int) ≤ _; omega)
        | (show (_ : Int) < _; omega)
        | exact ⟨hF, by omega, by omega⟩
        | exact ⟨hm, hop⟩
        | exact hm
        | exact Or.inl rfl
        | exact Or.inr rfl
        | (refine ⟨hF, ?_, ?_⟩ <;> decide)
        | exact absurd he (by assumption)
        | exact absurd (by assumption) he
        | trace_state
def sBroad8 : FSpec := spec (Wd × Int) (fun (w, i) => [.s (rWd w), .i i]) (fun (w, i) => WOk w i ∧ (thOf w i).pc < w.code.length) fun (w, i) => .s (rWd (broadP w i).1)
def waits (w : Wd) : List Int := w.l.map fun b => (b.length : Int)
theorem waits_emp {w : Wd} (h : 1 ≤ w.l.length) : emp (waits w) = false := by
  unfold emp waits
  rw [List.length_map]
  exact decide_eq_false (by omega)
set_option maxHeartbeats 1000000 in
set_option maxRecDepth 100000 in
theorem broad8_ok : Meets Tryz.prog 62 sBroad8 := by
  refine meets_plain H1_ok rfl [] (fn := Tryz.f62) rfl rfl rfl (by decide) fun ⟨w, i⟩ ⟨ho, hp⟩ => ?_
  have hh := ho.h
  have hlen := world_len ho.r
  have hF := ho.hasF
  have hm := ho.mem
  have hpc : (w.th.getD i.toNat default).pc + 1 = IntKind.i64.wrap ((w.th.getD i.toNat default).pc + 1) := pc_wrap ho hp
  have hhas : hasW w i = true := decide_eq_true hh
  have he : 0 < (w.th.getD i.toNat default).lf.length ∨ ¬ 0 < (w.th.getD i.toNat default).lf.length := by omega
  rcases he with he | he
  · have e1 : sBroad8.res (w, i) = .s (rWd (putW w i (nextT (leftT (thOf w i) [])))) := by show RV.s (rWd (broadP w i).1) = _; rw [broadP, if_pos he]
    show bodyK Tryz.prog _ _ _ _ sBroad8 (w, i)
    unfold bodyK retE
    rw [e1]
    clear e1
    repeat' (first | exact @id (emp _ = true) | (intro h; first | exact Bool.noConfusion h | (simp only [Qn] at h) | skip) | ((conv => whnf) <;> (first | exact trivial | apply Qa | apply And.intro | (refine CutE.at (A := Wd × Int × Th) (w, i, nextT (leftT (thOf w i) [])) ?_) | apply Qb | apply Qc | apply Qd | apply Qe | apply Qf | apply Qg | apply Qh | apply Qi | exact QA | exact QP | refine QG ?_ | apply Qj | apply Qk | apply Ql | apply Qm | apply Qo | apply Qp | apply Qw | apply Qv | apply Qu | apply Qt | apply Qs | apply Qr | apply Qq | apply Qx | apply wrapS | apply Qy | (with_reducible exact lenNil) | apply Eq.refl)) | ((with_reducible first | apply Y1 | apply Y2 | apply Y3 | show blkEq _ _ _); conv => whnf))
    all_goals try first | omega | (exfalso; omega) | exact hpc | (show w.th.length ≤ 1000000; omega)
    all_goals trace_state
  · have e1 : sBroad8.res (w, i) = .s (rWd (putW w i (leftT (thOf w i) (waits w)))) := by show RV.s (rWd (broadP w i).1) = _; rw [broadP, if_neg he]; rfl
    show bodyK Tryz.prog _ _ _ _ sBroad8 (w, i)
    unfold bodyK retE
    rw [e1]
    clear e1
    repeat' (first | exact @id (emp _ = true) | (intro h; first | exact Bool.noConfusion h | (simp only [Qn] at h) | skip) | ((conv => whnf) <;> (first | exact trivial | apply Qa | apply And.intro | (exfalso; omega) | apply Qb | apply Qc | apply Qd | apply Qe | apply Qf | apply Qg | apply Qh | apply Qi | exact QA | exact QP | refine QG ?_ | apply Qj | apply Qk | apply Ql | apply Qm | apply Qo | apply Qp | apply Qw | apply Qv | apply Qu | apply Qt | apply Qs | apply Qr | apply Qq | apply Qx | apply wrapS | apply Qy | (with_reducible exact lenNil) | apply Eq.refl)) | ((with_reducible first | apply Y1 | apply Y2 | apply Y3 | show blkEq _ _ _); conv => whnf))
    all_goals try first | omega | (exfalso; omega)
    have hw := waits_emp (w := w) (by omega)
    have hwl : (waits w).length = w.l.length := by unfold waits; simp
    apply LoopP.up (G := Nat) (fun k => k ≤ w.l.length) [1, 2, 4, 5, 6, 30, 31, 32] (fun k => [(32, .i k), (6, .c (.osl 3))]) (fun k => [(3, .slc 3 1 k (slG encI ((waits w).take k)))]) 4 (fun k => w.l.length - k)
    apply And.intro
    · refine CutE.at 0 ?_
      repeat' (first | exact @id (emp _ = true) | (intro h; first | exact Bool.noConfusion h | (simp only [Qn] at h) | skip) | ((conv => whnf) <;> (first | exact trivial | apply Qa | apply And.intro | apply Qb | apply Qc | apply Qd | apply Qe | apply Qf | apply Qg | apply Qh | apply Qi | exact QA | exact QP | refine QG ?_ | apply Qj | apply Qk | apply Ql | apply Qm | apply Qo | apply Qp | apply Qw | apply Qv | apply Qu | apply Qt | apply Qs | apply Qr | apply Qq | apply Qx | apply wrapS | apply Qy | (with_reducible exact lenNil) | apply Eq.refl)) | ((with_reducible first | apply Y1 | apply Y2 | apply Y3 | show blkEq _ _ _); conv => whnf))
      all_goals try simp only [Int.toNat_natCast, Int.toNat_zero, ge_iff_le, gt_iff_lt, Int.ofNat_le, Int.ofNat_lt, Int.ofNat_inj] at *
      all_goals first
        | omega
        | (dsimp only; omega)
        | assumption
        | exact Up.zero _
        | (show ((8 : Nat) : Int) * _ ≤ _; omega)
        | (show _ * (8 : Nat) ≤ _; omega)
        | (show _ * (16 : Nat) ≤ _; omega)
        | (show _ * (24 : Nat) ≤ _; omega)
        | trace_state
    · intro k hk
      have hx : k < w.l.length → (waits w).getD k default = ((w.l.getD k default).length : Int) := fun hk => by
        unfold waits
        rw [List.getD_eq_getElem?_getD, List.getElem?_map, List.getD_eq_getElem?_getD, List.getElem?_eq_getElem hk]; rfl
      repeat' (first | exact @id (emp _ = true) | (intro h; first | exact Bool.noConfusion h | (simp only [Qn] at h) | skip) | ((conv => whnf) <;> (first | exact trivial | apply Qa | apply And.intro | refine CutE.at (A := Nat) (k + 1) ?_ | (refine CutE.at (A := Wd × Int × Th) (w, i, leftT (thOf w i) (waits w)) ?_) | apply Qb | apply Qc | apply Qd | apply Qe | apply Qf | apply Qg | apply Qh | apply Qi | exact QA | exact QP | refine QG ?_ | apply Qj | apply Qk | apply Ql | apply Qm | apply Qo | apply Qp | apply Qw | apply Qv | apply Qu | apply Qt | apply Qs | apply Qr | apply Qq | apply Qx | apply wrapS | apply Qy | (with_reducible exact lenNil) | apply Eq.refl)) | ((with_reducible first | apply Y1 | apply Y2 | apply Y3 | show blkEq _ _ _); conv => whnf))
      all_goals try simp only [Int.toNat_natCast] at *
      all_goals first
        | omega
        | (show (k + 1) * 8 ≤ _; omega)
        | (show w.l.length - (k + 1) < w.l.length - k; omega)
        | (refine slG_take1 (q := 1) (by omega) rfl (by assumption) (by assumption) ?_
           rw [hx (by omega)] <;> rfl)
        | (show (waits w).length = k; omega)
        | exact slG_all (L := waits w) (by omega)
        | (exact slG_all (by omega))
        | exact hw
        | (show w.th.length ≤ 1000000; omega)
        | trace_state
end Go.Eng
