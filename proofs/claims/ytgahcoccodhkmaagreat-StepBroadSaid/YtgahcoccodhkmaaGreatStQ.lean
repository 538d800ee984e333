/- A part of the walks, and of the machine that proves them (StQ). -/
import Derived.Test.YtgahcoccodhkmaaGreatStM
set_option linter.unusedVariables false
set_option linter.unusedSimpArgs false
namespace Go.Eng
open Go Go.Proofs
def insOr (w : Wd) (t : Th) : Ins := if t.pc < (w.code.length : Int) then insOf w t else (27, 0, 0, 0)
theorem insOr_in {w : Wd} {t : Th} (h : t.pc < (w.code.length : Int)) : insOr w t = insOf w t := if_pos h
theorem insOr_end {w : Wd} {t : Th} (h : ¬ t.pc < (w.code.length : Int)) : insOr w t = (27, 0, 0, 0) := if_neg h
abbrev wxBe (e : Bool) (w : Wd) (i : Int) (t : Th) (x : Ins) : List Blk := [.row 77 (wxE e w i t x)]
def Q1 : List (Nat × FSpec) := [(12, sWorldR)]
theorem Q1_ok : GOK Tryz.prog (tab Q1) := gok_cons worldR_ok (gok_nil _)
def atErr (w : Wd) : Int := if worldR w = true then 3 else 1
def sAtBad : FSpec := spec (Bool × Wd × Int) (fun (e, w, i) => [.agg (wdC e w), .i i]) (fun (_, w, i) => SmallW w ∧ ¬ (worldR w = true ∧ 0 ≤ i ∧ i < w.th.length)) fun (_, w, _) => .tup [.c (.v (.pointer none)), .c (.i (atErr w))]
def sAtOk : FSpec := lentSpec 0 (Bool × Wd × Int) (fun (e, w, i) => [.agg (wdC e w), .i i]) (fun _ => []) (fun (_, w, i) => WOk w i) (fun _ => .tup [.c (.ptr 0 0), .c (.i 0)]) fun (e, w, i) => wxBe e w i (thOf w i) (insOr w (thOf w i))
set_option maxHeartbeats 2000000 in
set_option maxRecDepth 100000 in
theorem atBad_ok : Meets Tryz.prog 31 sAtBad := by
  refine meets_plain Q1_ok rfl [] (fn := Tryz.f31) rfl rfl rfl (by decide) fun ⟨e, w, i⟩ ⟨hs, hn⟩ => ?_
  by_cases hr : worldR w = true
  · have e1 : sAtBad.res (e, w, i) = .tup [.c (.v (.pointer none)), .c (.i 3)] := by show RV.tup [_, .c (.i (atErr w))] = _; rw [atErr, if_pos hr]
    show bodyK Tryz.prog _ _ _ _ sAtBad _
    unfold bodyK retE
    rw [e1]
    clear e1
    repeat' (first | exact @id (emp _ = true) | (intro h; first | exact Bool.noConfusion h | (simp only [Qn] at h) | skip) | ((conv => whnf) <;> (first | exact trivial | apply Qa | apply And.intro | (exfalso; exact Bool.noConfusion (hr.symm.trans (by assumption))) | refine CutE.at (e, w) ?_ | (exfalso; exact hn ⟨hr, by omega, by omega⟩) | apply Qb | apply Qc | apply Qd | apply Qe | apply Qf | apply Qg | apply Qh | apply Qi | exact QA | exact QP | refine QG ?_ | apply Qj | apply Qk | apply Ql | apply Qm | apply Qo | apply Qp | apply Qw | apply Qv | apply Qu | apply Qt | apply Qs | apply Qr | apply Qq | apply Qx | apply wrapS | apply Qy | (with_reducible exact lenNil) | apply Eq.refl)) | ((with_reducible first | apply Y1 | apply Y2 | apply Y3 | show blkEq _ _ _); conv => whnf))
    all_goals first
      | exact hs
      | exact hs.l.1
      | exact hs.l.2 _
      | exact hs.n
      | exact (hs.th _).1
      | exact (hs.th _).2
      | (exfalso; exact hn ⟨hr, by omega, by omega⟩)
      | trace_state
  · have e1 : sAtBad.res (e, w, i) = .tup [.c (.v (.pointer none)), .c (.i 1)] := by show RV.tup [_, .c (.i (atErr w))] = _; rw [atErr, if_neg hr]
    show bodyK Tryz.prog _ _ _ _ sAtBad _
    unfold bodyK retE
    rw [e1]
    clear e1
    repeat' (first | exact @id (emp _ = true) | (intro h; first | exact Bool.noConfusion h | (simp only [Qn] at h) | skip) | ((conv => whnf) <;> (first | exact trivial | apply Qa | apply And.intro | exact absurd (by assumption) hr | refine CutE.at (e, w) ?_ | apply Qb | apply Qc | apply Qd | apply Qe | apply Qf | apply Qg | apply Qh | apply Qi | exact QA | exact QP | refine QG ?_ | apply Qj | apply Qk | apply Ql | apply Qm | apply Qo | apply Qp | apply Qw | apply Qv | apply Qu | apply Qt | apply Qs | apply Qr | apply Qq | apply Qx | apply wrapS | apply Qy | (with_reducible exact lenNil) | apply Eq.refl)) | ((with_reducible first | apply Y1 | apply Y2 | apply Y3 | show blkEq _ _ _); conv => whnf))
    all_goals first
      | exact hs
      | exact hs.l.1
      | exact hs.l.2 _
      | exact hs.n
      | exact (hs.th _).1
      | exact (hs.th _).2
      | trace_state
set_option maxHeartbeats 2000000 in
set_option maxRecDepth 100000 in
theorem atOk_ok : Meets Tryz.prog 31 sAtOk := by
  refine meets_lent 1 Q1_ok rfl [] (fn := Tryz.f31) rfl rfl rfl (by decide) (fun _ => rfl) (fun _ => rfl) (by decide) fun ⟨e, w, i⟩ ho => ?_
  have ho : WOk w i := ho
  have hs := world_small ho.r
  have hr := ho.r
  have hh := ho.h
  have hp0 : 0 ≤ (w.th.getD i.toNat default).pc := ho.pc.1
  by_cases hp : (w.th.getD i.toNat default).pc < (w.code.length : Int)
  · have e1 : sAtOk.post ⟨e, w, i⟩ = numB 0 (wxBe e w i (thOf w i) (insOf w (thOf w i))) := by show numB 0 (wxBe e w i (thOf w i) (insOr w (thOf w i))) = _; rw [insOr_in hp]
    show bodyK Tryz.prog _ _ _ _ sAtOk _
    unfold bodyK retE
    rw [e1]
    clear e1
    repeat' (first | exact @id (emp _ = true) | (intro h; first | exact Bool.noConfusion h | (simp only [Qn] at h) | skip) | ((conv => whnf) <;> (first | exact trivial | apply Qa | apply And.intro | (exfalso; exact Bool.noConfusion (hr.symm.trans (by assumption))) | exact absurd hp (by assumption) | refine CutE.at (e, w) ?_ | apply Qb | apply Qc | apply Qd | apply Qe | apply Qf | apply Qg | apply Qh | apply Qi | exact QA | exact QP | refine QG ?_ | apply Qj | apply Qk | apply Ql | apply Qm | apply Qo | apply Qp | apply Qw | apply Qv | apply Qu | apply Qt | apply Qs | apply Qr | apply Qq | apply Qx | apply wrapS | apply Qy | (with_reducible exact lenNil) | apply Eq.refl)) | ((with_reducible first | apply Y1 | apply Y2 | apply Y3 | show blkEq _ _ _); conv => whnf))
    all_goals first
      | omega
      | exact hs
      | exact hs.l.1
      | exact hs.l.2 _
      | exact hs.n
      | exact (hs.th _).1
      | exact (hs.th _).2
      | trace_state
  · have e1 : sAtOk.post ⟨e, w, i⟩ = numB 0 (wxBe e w i (thOf w i) (27, 0, 0, 0)) := by show numB 0 (wxBe e w i (thOf w i) (insOr w (thOf w i))) = _; rw [insOr_end hp]
    show bodyK Tryz.prog _ _ _ _ sAtOk _
    unfold bodyK retE
    rw [e1]
    clear e1
    repeat' (first | exact @id (emp _ = true) | (intro h; first | exact Bool.noConfusion h | (simp only [Qn] at h) | skip) | ((conv => whnf) <;> (first | exact trivial | apply Qa | apply And.intro | (exfalso; exact Bool.noConfusion (hr.symm.trans (by assumption))) | exact absurd (by assumption) hp | refine CutE.at (e, w) ?_ | apply Qb | apply Qc | apply Qd | apply Qe | apply Qf | apply Qg | apply Qh | apply Qi | exact QA | exact QP | refine QG ?_ | apply Qj | apply Qk | apply Ql | apply Qm | apply Qo | apply Qp | apply Qw | apply Qv | apply Qu | apply Qt | apply Qs | apply Qr | apply Qq | apply Qx | apply wrapS | apply Qy | (with_reducible exact lenNil) | apply Eq.refl)) | ((with_reducible first | apply Y1 | apply Y2 | apply Y3 | show blkEq _ _ _); conv => whnf))
    all_goals first
      | omega
      | exact hs
      | exact hs.l.1
      | exact hs.l.2 _
      | exact hs.n
      | exact (hs.th _).1
      | exact (hs.th _).2
      | trace_state
def sAt : FSpec := sAtOk.or sAtBad
theorem at_ok : Meets Tryz.prog 31 sAt := meets_or atOk_ok atBad_ok
end Go.Eng
