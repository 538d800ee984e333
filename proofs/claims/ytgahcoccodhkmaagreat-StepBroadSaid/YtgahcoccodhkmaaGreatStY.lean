/- A part of the walks, and of the machine that proves them (StY). -/
import Derived.Test.YtgahcoccodhkmaaGreatStT
import Derived.Test.YtgahcoccodhkmaaGreatStX
import Derived.Test.YtgahcoccodhkmaaGreatStP
import Derived.Test.YtgahcoccodhkmaaGreatStQ
import Derived.Test.YtgahcoccodhkmaaGreatStJ
set_option linter.unusedVariables false
set_option linter.unusedSimpArgs false
namespace Go.Eng
open Go Go.Proofs
def workF (w : Wd) (i : Int) (t : Th) (x : Ins) : Wd := if (workX w i t x).2 = 0 then putW (workX w i t x).1.1 i (workX w i t x).1.2 else putW w i (faultT t (workX w i t x).2)
theorem workF_ok {w : Wd} {i : Int} {t : Th} {x : Ins} (h : (workX w i t x).2 = 0) : workF w i t x = putW (workX w i t x).1.1 i (workX w i t x).1.2 := if_pos h
theorem workF_bad {w : Wd} {i : Int} {t : Th} {x : Ins} (h : ¬ (workX w i t x).2 = 0) : workF w i t x = putW w i (faultT t (workX w i t x).2) := if_neg h
theorem fin_work {w : Wd} {i : Int} {t : Th} {x : Ins} {p : Wd × Int} (ht : t = thOf w i) (h1 : p.1 = putW (workX w i t x).1.1 i (workX w i t x).1.2) (h2 : p.2 = (workX w i t x).2) : finW w i p = workF w i t x := by
  unfold finW workF
  rw [h1, h2, ht]
theorem apX_eq {w : Wd} {i : Int} (ho : WOk w i) (hst : (thOf w i).st = 0) (hp : (thOf w i).pc < w.code.length) {op a b c : Int} (hx : insOf w (thOf w i) = (op, a, b, c)) (hop : 1 ≤ op ∧ op ≤ 15) :
    apX i (thOf w i) (op, a, b, c) = if 0 < (thOf w i).lf.length then (th0, 9) else apOf i (thOf w i) (op, a, b, c) := by
  have hir := ho.ins hp
  rw [hx] at hir
  have hmay := mayI_code (by have := ho.code; omega) hir hop
  have hlen := world_len ho.r
  have hi := ho.h
  have hc := ho.code
  have hin : inF i 0 7 = true := decide_eq_true (by omega)
  show apF _ _ _ _ _ _ = _
  unfold apF
  by_cases hl : 0 < (thOf w i).lf.length
  · have hr : readyF (thOf w i) i = 9 := by unfold readyF; rw [if_pos ⟨ho.th, hin⟩, if_neg (by omega)]
    rw [if_pos hl, hr, if_neg (by omega), if_pos rfl]
  · have hr : readyF (thOf w i) i = 0 := by unfold readyF; rw [if_pos ⟨ho.th, hin⟩, if_pos ⟨hst, by omega⟩]
    rw [if_neg hl, hr, if_neg (by omega), if_neg (by decide), if_neg (by rw [show inF op 1 15 = true from decide_eq_true hop]; exact Bool.noConfusion), if_neg (by rw [hmay]; exact Bool.noConfusion)]
theorem step_work {w : Wd} {i : Int} (ho : WOk w i) (hst : (thOf w i).st = 0) : stepF w i = workF w i (thOf w i) (insOr w (thOf w i)) := by
  have hpc := ho.pc
  by_cases hp : (thOf w i).pc < (w.code.length : Int)
  · rw [insOr_in hp]
    obtain ⟨op, a, b, c, hx⟩ : ∃ op a b c, insOf w (thOf w i) = (op, a, b, c) := ⟨_, _, _, _, rfl⟩
    rw [stepF_in (by omega) hx, hx]
    have hir := ho.ins hp
    rw [hx] at hir
    have hop := (insR_at hir).1
    have hc : (1 ≤ op ∧ op ≤ 15) ∨ op = 0 ∨ op = 16 ∨ op = 17 ∨ op = 18 ∨ op = 19 ∨ op = 20 ∨ op = 21 ∨ op = 22 ∨ op = 23 ∨ op = 24 ∨ op = 25 ∨ op = 26 := by omega
    rcases hc with hl | rfl | rfl | rfl | rfl | rfl | rfl | rfl | rfl | rfl | rfl | rfl | rfl
    · have eX : stepX w i (op, a, b, c) = localP w i (op, a, b, c) := by unfold stepX; rw [if_neg (show ¬ op = 0 by omega), if_pos (show 1 ≤ op ∧ op ≤ 15 from hl)]
      have eW : workX w i (thOf w i) (op, a, b, c) = ((w, (apX i (thOf w i) (op, a, b, c)).1), (apX i (thOf w i) (op, a, b, c)).2) := if_pos hl
      rw [eX]
      have hA := apX_eq ho hst hp hx hl
      by_cases hf : 0 < (thOf w i).lf.length
      · rw [if_pos hf] at hA
        have eL : localP w i (op, a, b, c) = (w, 9) := if_pos hf
        rw [eL, workF_bad (by rw [eW, hA]; show ¬ (9 : Int) = 0; decide), eW, hA]
        exact finW_bad (show ¬ (9 : Int) = 0 by decide)
      · rw [if_neg hf] at hA
        refine fin_work rfl ?_ ?_
        · rw [eW, hA]; unfold localP; rw [if_neg hf]
        · rw [eW, hA]; unfold localP; rw [if_neg hf]
    all_goals first
      | exact fin_work rfl rfl rfl
      | skip
    refine fin_work rfl ?_ (broadP_err w i)
    show (broadP w i).1 = putW w i (broadT w (nextT (thOf w i)))
    unfold broadP broadT
    by_cases hf : 0 < (thOf w i).lf.length
    · rw [if_pos hf, if_pos (show 0 < (nextT (thOf w i)).lf.length from hf)]; rfl
    · rw [if_neg hf, if_neg (show ¬ 0 < (nextT (thOf w i)).lf.length from hf)]
      have e : IntKind.i64.wrap ((nextT (thOf w i)).pc - 1) = (thOf w i).pc := by
        show IntKind.i64.wrap ((thOf w i).pc + 1 - 1) = _
        rw [wrap_i64 (by omega)]; omega
      rw [e]; rfl
  · rw [insOr_end hp, stepF_end (by omega)]
    have h3 : (workX w i (thOf w i) (27, 0, 0, 0)).2 = 3 := rfl
    rw [workF_bad (by rw [h3]; decide), h3]
def sTry : FSpec := sTryOk.or (sTryBad.or sTryFl)
theorem try_ok : Meets Tryz.prog 33 sTry := meets_or tryOk_ok (meets_or tryBad_ok tryFl_ok)
def Yt1 : List (Nat × FSpec) := [(31, sAt), (32, sWCan), (33, sTry), (54, sWLess)]
theorem Yt1_ok : GOK Tryz.prog (tab Yt1) := gok_cons at_ok (gok_cons wcan_ok (gok_cons try_ok (gok_cons wless_ok (gok_nil _))))
theorem world_evs {w : Wd} {i : Int} (ho : WOk w i) (he : w.ev.length ≤ 1000000) : TryPre w i (thOf w i) (insOr w (thOf w i)) := by
  have hlen := world_len ho.r
  have hs := world_small ho.r
  have hi := ho.h
  refine ⟨⟨hs.l, by omega, hs.th _, ho.pc, he, ?_, ?_, ?_⟩, hi, hs.n⟩
  all_goals
    by_cases hp : (thOf w i).pc < (w.code.length : Int)
    · rw [insOr_in hp]
      have hir := ho.ins hp
      obtain ⟨op, a, b, c, hx⟩ : ∃ op a b c, insOf w (thOf w i) = (op, a, b, c) := ⟨_, _, _, _, rfl⟩
      rw [hx] at hir ⊢
      have h1 := (insR_at hir).1
      have h2 := insR_regs hir
      first
        | (exact ⟨h1.1, Int.le_trans h1.2 (by decide)⟩)
        | (exact fun h => h2.1 (by have h : op = 16 ∨ op = 17 ∨ op = 19 ∨ op = 20 ∨ op = 21 ∨ op = 24 ∨ op = 25 := h; omega))
        | (exact fun h => h2.2.1 h)
    · rw [insOr_end hp]
      first
        | decide
        | (intro h; exact absurd h (by decide))
def stepR (w : Wd) (i : Int) : Wd × Int := if worldR w = true ∧ 0 ≤ i ∧ i < w.th.length then (if canF w i = true then (stepF w i, 0) else (wd0, 9)) else (wd0, atErr w)
def rWdE (p : Wd × Int) : RV := .tup [rWd p.1, .c (.i p.2)]
def sStepP : FSpec := spec (Wd × Int) (fun (w, i) => [.s (rWd w), .i i]) (fun (w, _) => SmallW w ∧ w.ev.length ≤ 1000000) fun (w, i) => rWdE (stepR w i)
def sCanP : FSpec := spec (Bool × Wd × Int) (fun (e, w, i) => [.agg (wdC e w), .i i]) (fun (_, w, _) => SmallW w) fun (_, w, i) => .tup [.c (.b (decide (worldR w = true ∧ 0 ≤ i ∧ i < w.th.length) && canF w i)), .c (.i (if worldR w = true ∧ 0 ≤ i ∧ i < w.th.length then 0 else atErr w))]
theorem canPre {w : Wd} {i : Int} (ho : WOk w i) : (0 ≤ i ∧ i < w.l.length) ∧ (thOf w i).lf.length ≤ 1000000 ∧ ((insOr w (thOf w i)).1 = 23 → Reg (insOr w (thOf w i)).2.1 ∧ Reg (insOr w (thOf w i)).2.2.1) := by
  have hlen := world_len ho.r
  have hi := ho.h
  refine ⟨by omega, ((world_small ho.r).th _).2, ?_⟩
  by_cases hp : (thOf w i).pc < (w.code.length : Int)
  · rw [insOr_in hp]
    exact fun h => (insR_regs (ho.ins hp)).1 (.inr (.inr (.inr (.inr (.inr (.inl h))))))
  · rw [insOr_end hp]
    intro h; exact absurd h (by decide)
theorem atErr_no {w : Wd} : ¬ atErr w = 0 := by unfold atErr; split <;> decide
set_option maxHeartbeats 2000000 in
set_option maxRecDepth 100000 in
theorem canP_ok : Meets Tryz.prog 22 sCanP := by
  refine meets_plain Yt1_ok rfl [] (fn := Tryz.f22) rfl rfl rfl (by decide) fun ⟨e, w, i⟩ hs => ?_
  have hs : SmallW w := hs
  have hno := @atErr_no w
  by_cases hr : worldR w = true ∧ 0 ≤ i ∧ i < w.th.length
  · have ho : WOk w i := ⟨hr.1, hr.2⟩
    have hc := canPre ho
    have e1 : sCanP.res (e, w, i) = .tup [.c (.b (canK w i (thOf w i) (insOr w (thOf w i)))), .c (.i 0)] := by
      show RV.tup [.c (.b (decide _ && canF w i)), .c (.i (if _ then _ else _))] = _
      rw [decide_eq_true hr, if_pos hr, canK_eq]; rfl
    show bodyK Tryz.prog _ _ _ _ sCanP _
    unfold bodyK retE
    rw [e1]
    clear e1
    repeat' (first | exact @id (emp _ = true) | (intro h; first | exact Bool.noConfusion h | (simp only [Qn] at h) | skip) | ((conv => whnf) <;> (first | exact trivial | apply Qa | apply And.intro | (apply CallP.inl; apply CallP.own0; refine CutE.at (A := Bool × Wd × Int) (e, w, i) ?_) | (refine CutE.at (A := Bool × Wk8) (e, w, i, thOf w i, insOr w (thOf w i)) ?_) | apply Qb | apply Qc | apply Qd | apply Qe | apply Qf | apply Qg | apply Qh | apply Qi | exact QA | exact QP | refine QG ?_ | apply Qj | apply Qk | apply Ql | apply Qm | apply Qo | apply Qp | apply Qw | apply Qv | apply Qu | apply Qt | apply Qs | apply Qr | apply Qq | apply Qx | apply wrapS | apply Qy | (with_reducible exact lenNil) | apply Eq.refl)) | ((with_reducible first | apply Y1 | apply Y2 | apply Y3 | show blkEq _ _ _); conv => whnf))
    all_goals first
      | exact ho
      | exact hs
      | exact hs.l.1
      | exact hs.l.2 _
      | exact hs.n
      | exact (hs.th _).1
      | exact (hs.th _).2
      | exact hr
      | exact hr (by assumption)
      | exact ⟨hs, hr⟩
      | exact ho.r
      | exact ho.h.1
      | exact ho.h.2
      | exact h
      | exact hc.1.1
      | exact hc.1.2
      | exact hc.2.1
      | exact (hc.2.2 (by assumption)).1.1
      | exact (hc.2.2 (by assumption)).1.2
      | exact (hc.2.2 (by assumption)).2.1
      | exact (hc.2.2 (by assumption)).2.2
      | trace_state
  · have e1 : sCanP.res (e, w, i) = .tup [.c (.b false), .c (.i (atErr w))] := by
      show RV.tup [.c (.b (decide _ && canF w i)), .c (.i (if _ then _ else _))] = _
      rw [decide_eq_false hr, if_neg hr]; rfl
    show bodyK Tryz.prog _ _ _ _ sCanP _
    unfold bodyK retE
    rw [e1]
    clear e1
    repeat' (first | exact @id (emp _ = true) | (intro h; first | exact Bool.noConfusion h | (simp only [Qn] at h) | skip) | ((conv => whnf) <;> (first | exact trivial | apply Qa | apply And.intro | exact absurd (by assumption) hno | (apply CallP.inr; apply CallP.nb; refine CutE.at (A := Bool × Wd × Int) (e, w, i) ?_) | apply Qb | apply Qc | apply Qd | apply Qe | apply Qf | apply Qg | apply Qh | apply Qi | exact QA | exact QP | refine QG ?_ | apply Qj | apply Qk | apply Ql | apply Qm | apply Qo | apply Qp | apply Qw | apply Qv | apply Qu | apply Qt | apply Qs | apply Qr | apply Qq | apply Qx | apply wrapS | apply Qy | (with_reducible exact lenNil) | apply Eq.refl)) | ((with_reducible first | apply Y1 | apply Y2 | apply Y3 | show blkEq _ _ _); conv => whnf))
    all_goals first
      | exact ho
      | exact hs
      | exact hs.l.1
      | exact hs.l.2 _
      | exact hs.n
      | exact (hs.th _).1
      | exact (hs.th _).2
      | exact hr
      | exact hr (by assumption)
      | exact ⟨hs, hr⟩
      | exact ho.r
      | exact ho.h.1
      | exact ho.h.2
      | exact h
      | exact hc.1.1
      | exact hc.1.2
      | exact hc.2.1
      | exact (hc.2.2 (by assumption)).1.1
      | exact (hc.2.2 (by assumption)).1.2
      | exact (hc.2.2 (by assumption)).2.1
      | exact (hc.2.2 (by assumption)).2.2
      | trace_state
end Go.Eng
namespace Go.Eng
open Go Go.Proofs
theorem canF_st0 {w : Wd} {i : Int} (h : canF w i = true) : (thOf w i).st = 0 := by
  by_cases hs : (thOf w i).st = 0
  · exact hs
  · rw [canF_st hs] at h; exact Bool.noConfusion h
theorem ite_th {c : Prop} [Decidable c] {a b : (Wd × Th) × Int} {l : List Th} (ha : a.1.1.th = l) (hb : b.1.1.th = l) : (if c then a else b).1.1.th = l := by
  by_cases h : c
  · rw [if_pos h]; exact ha
  · rw [if_neg h]; exact hb
theorem workX_th {w : Wd} {i : Int} {t : Th} {x : Ins} : (workX w i t x).1.1.th = w.th :=
  ite_th rfl (ite_th rfl (ite_th rfl (ite_th rfl (ite_th rfl (ite_th rfl (ite_th rfl (ite_th rfl (ite_th rfl (ite_th rfl (ite_th rfl (ite_th rfl rfl)))))))))))
set_option maxHeartbeats 2000000 in
set_option maxRecDepth 100000 in
theorem stepP_ok : Meets Tryz.prog 9 sStepP := by
  refine meets_plain Yt1_ok rfl [] (fn := Tryz.f9) rfl rfl rfl (by decide) fun ⟨w, i⟩ ⟨hs, hev⟩ => ?_
  have hs : SmallW w := hs
  have hev : w.ev.length ≤ 1000000 := hev
  have hno := @atErr_no w
  by_cases hr : worldR w = true ∧ 0 ≤ i ∧ i < w.th.length
  · have ho : WOk w i := ⟨hr.1, hr.2⟩
    have hc := canPre ho
    have hT := world_evs ho hev
    by_cases hcan : canF w i = true
    · have hst := canF_st0 hcan
      have hck : canK w i (thOf w i) (insOr w (thOf w i)) = true := by rw [← canK_eq]; exact hcan
      by_cases he : (workX w i (thOf w i) (insOr w (thOf w i))).2 = 0
      · have e1 : sStepP.res (w, i) = rWdE (putW (workX w i (thOf w i) (insOr w (thOf w i))).1.1 i (workX w i (thOf w i) (insOr w (thOf w i))).1.2, 0) := by
          show rWdE (stepR w i) = _
          unfold stepR; rw [if_pos hr, if_pos hcan, step_work ho hst, workF_ok he]
        show bodyK Tryz.prog _ _ _ _ sStepP _
        unfold bodyK retE
        rw [e1]
        clear e1
        repeat' (first | exact @id (emp _ = true) | (intro h; first | exact Bool.noConfusion h | (simp only [Qn] at h) | skip) | ((conv => whnf) <;> (first | exact trivial | apply Qa | apply And.intro | (exfalso; exact Bool.noConfusion (hck.symm.trans (by assumption))) | (apply CallP.inl; apply CallP.own0; refine CutE.at (A := Bool × Wd × Int) (true, w, i) ?_) | (refine CutE.at (A := Bool × Wk8) (true, w, i, thOf w i, insOr w (thOf w i)) ?_) | (apply CallP.inl; apply CallP.own1; refine CutE.at (A := Wk8) (w, i, thOf w i, insOr w (thOf w i)) ?_) | apply Qb | apply Qc | apply Qd | apply Qe | apply Qf | apply Qg | apply Qh | apply Qi | exact QA | exact QP | refine QG ?_ | apply Qj | apply Qk | apply Ql | apply Qm | apply Qo | apply Qp | apply Qw | apply Qv | apply Qu | apply Qt | apply Qs | apply Qr | apply Qq | apply Qx | apply wrapS | apply Qy | (with_reducible exact lenNil) | apply Eq.refl)) | ((with_reducible first | apply Y1 | apply Y2 | apply Y3 | show blkEq _ _ _); conv => whnf))
        all_goals first
          | exact ho
          | exact hs
          | exact ⟨hs, hr⟩
          | exact hs.l.1
          | exact hs.l.2 _
          | exact hs.n
          | exact (hs.th _).1
          | exact (hs.th _).2
          | exact hc.1.1
          | exact hc.1.2
          | exact hc.2.1
          | exact (hc.2.2 (by assumption)).1.1
          | exact (hc.2.2 (by assumption)).1.2
          | exact (hc.2.2 (by assumption)).2.1
          | exact (hc.2.2 (by assumption)).2.2
          | exact hT
          | exact he
          | exact workX_th
          | exact he (by assumption)
          | exact hr (by assumption)
          | exact (hno (by assumption)).elim
          | exact (hno (Eq.symm (by assumption))).elim
          | trace_state
      · have e1 : sStepP.res (w, i) = rWdE (putW w i (faultT (thOf w i) (workX w i (thOf w i) (insOr w (thOf w i))).2), 0) := by
          show rWdE (stepR w i) = _
          unfold stepR; rw [if_pos hr, if_pos hcan, step_work ho hst, workF_bad he]
        show bodyK Tryz.prog _ _ _ _ sStepP _
        unfold bodyK retE
        rw [e1]
        clear e1
        repeat' (first | exact @id (emp _ = true) | (intro h; first | exact Bool.noConfusion h | (simp only [Qn] at h) | skip) | ((conv => whnf) <;> (first | exact trivial | apply Qa | apply And.intro | (exfalso; exact Bool.noConfusion (hck.symm.trans (by assumption))) | (apply CallP.inl; apply CallP.own0; refine CutE.at (A := Bool × Wd × Int) (true, w, i) ?_) | (refine CutE.at (A := Bool × Wk8) (true, w, i, thOf w i, insOr w (thOf w i)) ?_) | (apply CallP.inr; apply CallP.inl; apply CallP.own1; refine CutE.at (A := Wk8) (w, i, thOf w i, insOr w (thOf w i)) ?_) | apply Qb | apply Qc | apply Qd | apply Qe | apply Qf | apply Qg | apply Qh | apply Qi | exact QA | exact QP | refine QG ?_ | apply Qj | apply Qk | apply Ql | apply Qm | apply Qo | apply Qp | apply Qw | apply Qv | apply Qu | apply Qt | apply Qs | apply Qr | apply Qq | apply Qx | apply wrapS | apply Qy | (with_reducible exact lenNil) | apply Eq.refl)) | ((with_reducible first | apply Y1 | apply Y2 | apply Y3 | show blkEq _ _ _); conv => whnf))
        all_goals first
          | exact ho
          | exact hs
          | exact ⟨hs, hr⟩
          | exact hs.l.1
          | exact hs.l.2 _
          | exact hs.n
          | exact (hs.th _).1
          | exact (hs.th _).2
          | exact hc.1.1
          | exact hc.1.2
          | exact hc.2.1
          | exact (hc.2.2 (by assumption)).1.1
          | exact (hc.2.2 (by assumption)).1.2
          | exact (hc.2.2 (by assumption)).2.1
          | exact (hc.2.2 (by assumption)).2.2
          | exact hT
          | exact he
          | exact workX_th
          | exact he (by assumption)
          | exact hr (by assumption)
          | exact (hno (by assumption)).elim
          | exact (hno (Eq.symm (by assumption))).elim
          | trace_state
    · have hck : canK w i (thOf w i) (insOr w (thOf w i)) = false := by rw [← canK_eq]; exact Bool.eq_false_iff.2 hcan
      have e1 : sStepP.res (w, i) = rWdE (wd0, 9) := by
        show rWdE (stepR w i) = _
        unfold stepR; rw [if_pos hr, if_neg hcan]
      show bodyK Tryz.prog _ _ _ _ sStepP _
      unfold bodyK retE
      rw [e1]
      clear e1
      repeat' (first | exact @id (emp _ = true) | (intro h; first | exact Bool.noConfusion h | (simp only [Qn] at h) | skip) | ((conv => whnf) <;> (first | exact trivial | apply Qa | apply And.intro | (exfalso; exact Bool.noConfusion (hck.symm.trans (by assumption))) | (apply CallP.inl; apply CallP.own0; refine CutE.at (A := Bool × Wd × Int) (true, w, i) ?_) | (refine CutE.at (A := Bool × Wk8) (true, w, i, thOf w i, insOr w (thOf w i)) ?_) | apply Qb | apply Qc | apply Qd | apply Qe | apply Qf | apply Qg | apply Qh | apply Qi | exact QA | exact QP | refine QG ?_ | apply Qj | apply Qk | apply Ql | apply Qm | apply Qo | apply Qp | apply Qw | apply Qv | apply Qu | apply Qt | apply Qs | apply Qr | apply Qq | apply Qx | apply wrapS | apply Qy | (with_reducible exact lenNil) | apply Eq.refl)) | ((with_reducible first | apply Y1 | apply Y2 | apply Y3 | show blkEq _ _ _); conv => whnf))
      all_goals first
        | exact ho
        | exact hs
        | exact ⟨hs, hr⟩
        | exact hs.l.1
        | exact hs.l.2 _
        | exact hs.n
        | exact (hs.th _).1
        | exact (hs.th _).2
        | exact hc.1.1
        | exact hc.1.2
        | exact hc.2.1
        | exact (hc.2.2 (by assumption)).1.1
        | exact (hc.2.2 (by assumption)).1.2
        | exact (hc.2.2 (by assumption)).2.1
        | exact (hc.2.2 (by assumption)).2.2
        | exact hT
        | exact he
        | exact workX_th
        | exact he (by assumption)
        | exact hr (by assumption)
        | exact (hno (by assumption)).elim
        | exact (hno (Eq.symm (by assumption))).elim
        | trace_state
  · have e1 : sStepP.res (w, i) = rWdE (wd0, atErr w) := by
      show rWdE (stepR w i) = _
      unfold stepR; rw [if_neg hr]
    show bodyK Tryz.prog _ _ _ _ sStepP _
    unfold bodyK retE
    rw [e1]
    clear e1
    repeat' (first | exact @id (emp _ = true) | (intro h; first | exact Bool.noConfusion h | (simp only [Qn] at h) | skip) | ((conv => whnf) <;> (first | exact trivial | apply Qa | apply And.intro | exact absurd (by assumption) hno | (apply CallP.inr; apply CallP.nb; refine CutE.at (A := Bool × Wd × Int) (true, w, i) ?_) | apply Qb | apply Qc | apply Qd | apply Qe | apply Qf | apply Qg | apply Qh | apply Qi | exact QA | exact QP | refine QG ?_ | apply Qj | apply Qk | apply Ql | apply Qm | apply Qo | apply Qp | apply Qw | apply Qv | apply Qu | apply Qt | apply Qs | apply Qr | apply Qq | apply Qx | apply wrapS | apply Qy | (with_reducible exact lenNil) | apply Eq.refl)) | ((with_reducible first | apply Y1 | apply Y2 | apply Y3 | show blkEq _ _ _); conv => whnf))
    all_goals first
      | exact ho
      | exact hs
      | exact ⟨hs, hr⟩
      | exact hs.l.1
      | exact hs.l.2 _
      | exact hs.n
      | exact (hs.th _).1
      | exact (hs.th _).2
      | exact hc.1.1
      | exact hc.1.2
      | exact hc.2.1
      | exact (hc.2.2 (by assumption)).1.1
      | exact (hc.2.2 (by assumption)).1.2
      | exact (hc.2.2 (by assumption)).2.1
      | exact (hc.2.2 (by assumption)).2.2
      | exact hT
      | exact he
      | exact workX_th
      | exact he (by assumption)
      | exact hr (by assumption)
      | exact (hno (by assumption)).elim
      | exact (hno (Eq.symm (by assumption))).elim
      | trace_state
end Go.Eng
