/- A part of the walks, and of the machine that proves them (StRu). -/
import Derived.Test.YtgahcoccodhkmaaGreatStPl
import Derived.Test.YtgahcoccodhkmaaGreatStJ
import Derived.Test.YtgahcoccodhkmaaGreatStI
set_option linter.unusedVariables false
set_option linter.unusedSimpArgs false
namespace Go.Eng
open Go Go.Proofs
def Ru1 : List (Nat × FSpec) := [(24, sHas8), (27, sCan8), (28, sStep8), (29, sFlush8)]
theorem Ru1_ok : GOK Tryz.prog (tab Ru1) := gok_cons has8_ok (gok_cons can8_ok (gok_cons step8_ok (gok_cons flush8_ok (gok_nil _))))
def sDone8 : FSpec := spec (Wd × Act) (fun (w, a) => [.s (rWd w), .agg (encAct a)]) (fun (w, _) => worldR w = true) fun (w, a) => .b (doneF w a)
set_option maxHeartbeats 2000000 in
set_option maxRecDepth 100000 in
theorem done8_ok : Meets Tryz.prog 48 sDone8 := by
  refine meets_plain Ru1_ok rfl [] (fn := Tryz.f48) rfl rfl rfl (by decide) fun ⟨w, kd, th⟩ hr => ?_
  have hr : worldR w = true := hr
  have hlen := world_len hr
  have h1 := @doneF_no w (kd, th)
  have h2 := @doneF_step w (kd, th)
  have h3 := @doneF_else w (kd, th)
  by_cases hh : hasW w th = true
  · have hi := hasW_iff.1 hh
    have ho : WOk w th := ⟨hr, hi⟩
    repeat' (first | exact @id (emp _ = true) | (intro h; first | exact Bool.noConfusion h | (simp only [Qn] at h) | skip) | ((conv => whnf) <;> (first | exact trivial | apply Qa | apply And.intro | (exfalso; exact Bool.noConfusion (hh.symm.trans (by assumption))) | apply Qb | apply Qc | apply Qd | apply Qe | apply Qf | apply Qg | apply Qh | apply Qi | exact QA | exact QP | refine QG ?_ | apply Qj | apply Qk | apply Ql | apply Qm | apply Qo | apply Qp | apply Qw | apply Qv | apply Qu | apply Qt | apply Qs | apply Qr | apply Qq | apply Qx | apply wrapS | apply Qy | (with_reducible exact lenNil) | apply Eq.refl)) | ((with_reducible first | apply Y1 | apply Y2 | apply Y3 | show blkEq _ _ _); conv => whnf))
    all_goals first
      | omega
      | exact ho
      | exact ho.r
      | exact ho.h.1
      | exact ho.h.2
      | exact h2 hh (by assumption)
      | (rw [h3 hh (by assumption)]; show decide ((kd : Int) = 1 ∧ _) = _; first | (apply decide_eq_true; constructor <;> first | assumption | omega) | (apply decide_eq_false; rintro ⟨a, b⟩; omega) | (congr 1; apply propext; constructor <;> intro h <;> omega))
      | (rw [h3 hh (by assumption)]; simp only [*, true_and, false_and, decide_false]; done)
      | (rw [h3 hh (by assumption), ‹kd = 1›]; simp only [true_and]; congr 1; apply propext; show 0 < (w.l.getD th.toNat default).length ↔ _; omega)
      | trace_state
  · have hh0 : hasW w th = false := by simpa using hh
    repeat' (first | exact @id (emp _ = true) | (intro h; first | exact Bool.noConfusion h | (simp only [Qn] at h) | skip) | ((conv => whnf) <;> (first | exact trivial | apply Qa | apply And.intro | (exfalso; exact Bool.noConfusion (hh0.symm.trans (by assumption))) | apply Qb | apply Qc | apply Qd | apply Qe | apply Qf | apply Qg | apply Qh | apply Qi | exact QA | exact QP | refine QG ?_ | apply Qj | apply Qk | apply Ql | apply Qm | apply Qo | apply Qp | apply Qw | apply Qv | apply Qu | apply Qt | apply Qs | apply Qr | apply Qq | apply Qx | apply wrapS | apply Qy | (with_reducible exact lenNil) | apply Eq.refl)) | ((with_reducible first | apply Y1 | apply Y2 | apply Y3 | show blkEq _ _ _); conv => whnf))
    all_goals first
      | exact h1 hh0
      | (exfalso; exact Bool.noConfusion (hh0.symm.trans (by assumption)))
      | trace_state
def Ru2 : List (Nat × FSpec) := (48, sDone8) :: Ru1
theorem Ru2_ok : GOK Tryz.prog (tab Ru2) := gok_cons done8_ok Ru1_ok
def sDo8 : FSpec := spec (Wd × Act) (fun (w, a) => [.s (rWd w), .agg (encAct a)]) (fun (w, _) => worldR w = true ∧ w.ev.length ≤ 1000000) fun (w, a) => .s (rWd (doF w a))
set_option maxHeartbeats 2000000 in
set_option maxRecDepth 100000 in
theorem do8_ok : Meets Tryz.prog 25 sDo8 := by
  refine meets_plain Ru2_ok rfl [] (fn := Tryz.f25) rfl rfl rfl (by decide) fun ⟨w, kd, th⟩ ⟨hr, hev⟩ => ?_
  have hev : w.ev.length ≤ 1000000 := hev
  by_cases hd : doneF w (kd, th) = true
  · have ho : WOk w th := done_ok hr hd
    by_cases h0 : kd = 0
    · have e1 : sDo8.res (w, kd, th) = .s (rWd (stepF w th)) := by show RV.s (rWd (doF w (kd, th))) = _; rw [doF_step hd h0]
      show bodyK Tryz.prog _ _ _ _ sDo8 _
      unfold bodyK retE
      rw [e1]
      clear e1
      repeat' (first | exact @id (emp _ = true) | (intro h; first | exact Bool.noConfusion h | (simp only [Qn] at h) | skip) | ((conv => whnf) <;> (first | exact trivial | apply Qa | apply And.intro | (exfalso; exact Bool.noConfusion (hd.symm.trans (by assumption))) | exact absurd h0 (by assumption) | (refine CutE.at (A := Wd × Act) (w, kd, th) ?_) | (refine CutE.at (A := Wd × Int) (w, th) ?_) | apply Qb | apply Qc | apply Qd | apply Qe | apply Qf | apply Qg | apply Qh | apply Qi | exact QA | exact QP | refine QG ?_ | apply Qj | apply Qk | apply Ql | apply Qm | apply Qo | apply Qp | apply Qw | apply Qv | apply Qu | apply Qt | apply Qs | apply Qr | apply Qq | apply Qx | apply wrapS | apply Qy | (with_reducible exact lenNil) | apply Eq.refl)) | ((with_reducible first | apply Y1 | apply Y2 | apply Y3 | show blkEq _ _ _); conv => whnf))
      all_goals first
        | exact hr
        | exact hev
        | exact ho.r
        | exact ho
        | exact ho.h.1
        | exact ho.h.2
        | trace_state
    · have e1 : sDo8.res (w, kd, th) = .s (rWd (flushF w th)) := by show RV.s (rWd (doF w (kd, th))) = _; rw [doF_flush hd h0]
      have hl := (done_flush hr hd h0).2
      show bodyK Tryz.prog _ _ _ _ sDo8 _
      unfold bodyK retE
      rw [e1]
      clear e1
      repeat' (first | exact @id (emp _ = true) | (intro h; first | exact Bool.noConfusion h | (simp only [Qn] at h) | skip) | ((conv => whnf) <;> (first | exact trivial | apply Qa | apply And.intro | (exfalso; exact Bool.noConfusion (hd.symm.trans (by assumption))) | exact absurd (by assumption) h0 | (refine CutE.at (A := Wd × Act) (w, kd, th) ?_) | (refine CutE.at (A := Wd × Int) (w, th) ?_) | apply Qb | apply Qc | apply Qd | apply Qe | apply Qf | apply Qg | apply Qh | apply Qi | exact QA | exact QP | refine QG ?_ | apply Qj | apply Qk | apply Ql | apply Qm | apply Qo | apply Qp | apply Qw | apply Qv | apply Qu | apply Qt | apply Qs | apply Qr | apply Qq | apply Qx | apply wrapS | apply Qy | (with_reducible exact lenNil) | apply Eq.refl)) | ((with_reducible first | apply Y1 | apply Y2 | apply Y3 | show blkEq _ _ _); conv => whnf))
      all_goals first
        | exact hr
        | exact ho
        | exact ho.r
        | exact ho.h.1
        | exact ho.h.2
        | exact hl
        | trace_state
  · have hd0 : doneF w (kd, th) = false := by simpa using hd
    have e1 : sDo8.res (w, kd, th) = .s (rWd w) := by show RV.s (rWd (doF w (kd, th))) = _; rw [doF_no hd]
    show bodyK Tryz.prog _ _ _ _ sDo8 _
    unfold bodyK retE
    rw [e1]
    clear e1
    repeat' (first | exact @id (emp _ = true) | (intro h; first | exact Bool.noConfusion h | (simp only [Qn] at h) | skip) | ((conv => whnf) <;> (first | exact trivial | apply Qa | apply And.intro | (exfalso; exact Bool.noConfusion (hd0.symm.trans (by assumption))) | exact absurd (by assumption) hd | (refine CutE.at (A := Wd × Act) (w, kd, th) ?_) | apply Qb | apply Qc | apply Qd | apply Qe | apply Qf | apply Qg | apply Qh | apply Qi | exact QA | exact QP | refine QG ?_ | apply Qj | apply Qk | apply Ql | apply Qm | apply Qo | apply Qp | apply Qw | apply Qv | apply Qu | apply Qt | apply Qs | apply Qr | apply Qq | apply Qx | apply wrapS | apply Qy | (with_reducible exact lenNil) | apply Eq.refl)) | ((with_reducible first | apply Y1 | apply Y2 | apply Y3 | show blkEq _ _ _); conv => whnf))
    all_goals first
      | exact hr
      | trace_state
def Ru3 : List (Nat × FSpec) := (25, sDo8) :: Ru2
theorem Ru3_ok : GOK Tryz.prog (tab Ru3) := gok_cons do8_ok Ru2_ok
def sRun8 : FSpec := spec (Wd × List Act) (fun (w, l) => [.s (rWd w), .c (actsS l)]) (fun (w, l) => worldR w = true ∧ w.ev.length ≤ 500000 ∧ l.length ≤ 400000) fun (w, l) => .tup [rWd (runK w l l.length).1, .c (.i (runK w l l.length).2)]
set_option maxHeartbeats 2000000 in
set_option maxRecDepth 100000 in
theorem run8_ok : Meets Tryz.prog 23 sRun8 := by
  refine meets_plain Ru3_ok rfl [] (fn := Tryz.f23) rfl rfl rfl (by decide) fun ⟨w, l⟩ ⟨hr, hev, hl⟩ => ?_
  have hev : w.ev.length ≤ 500000 := hev
  have hl : l.length ≤ 400000 := hl
  obtain ⟨R, m, hR⟩ : ∃ R m, runK w l l.length = (R, m) := ⟨_, _, rfl⟩
  have e1 : sRun8.res (w, l) = .tup [rWd R, .c (.i m)] := by show RV.tup [rWd (runK w l l.length).1, .c (.i (runK w l l.length).2)] = _; rw [hR]
  show bodyK Tryz.prog _ _ _ _ sRun8 _
  unfold bodyK retE
  rw [e1]
  clear e1
  repeat' (first | exact @id (emp _ = true) | (intro h; first | exact Bool.noConfusion h | (simp only [Qn] at h) | skip) | ((conv => whnf) <;> (first | exact trivial | apply Qa | apply And.intro | apply Qb | apply Qc | apply Qd | apply Qe | apply Qf | apply Qg | apply Qh | apply Qi | exact QA | exact QP | refine QG ?_ | apply Qj | apply Qk | apply Ql | apply Qm | apply Qo | apply Qp | apply Qw | apply Qv | apply Qu | apply Qt | apply Qs | apply Qr | apply Qq | apply Qx | apply wrapS | apply Qy | (with_reducible exact lenNil) | apply Eq.refl)) | ((with_reducible first | apply Y1 | apply Y2 | apply Y3 | show blkEq _ _ _); conv => whnf))
  apply LoopP.up (G := Nat × Wd × Int) (fun (k, v, n) => k ≤ l.length ∧ runK w l k = (v, n)) [2, 4, 6, 9, 10, 11] (fun (k, v, n) => [(11, .i k), (6, .i n)]) (fun (k, v, n) => [(0, .row 33 (wdC true v))]) 2 (fun (k, _, _) => l.length - k)
  apply And.intro
  · refine CutE.at (A := Nat × Wd × Int) (0, w, 0) ?_
    repeat' (first | exact @id (emp _ = true) | (intro h; first | exact Bool.noConfusion h | (simp only [Qn] at h) | skip) | ((conv => whnf) <;> (first | exact trivial | apply Qa | apply And.intro | apply EntP.id 2 | apply Qb | apply Qc | apply Qd | apply Qe | apply Qf | apply Qg | apply Qh | apply Qi | exact QA | exact QP | refine QG ?_ | apply Qj | apply Qk | apply Ql | apply Qm | apply Qo | apply Qp | apply Qw | apply Qv | apply Qu | apply Qt | apply Qs | apply Qr | apply Qq | apply Qx | apply wrapS | apply Qy | (with_reducible exact lenNil) | apply Eq.refl)) | ((with_reducible first | apply Y1 | apply Y2 | apply Y3 | show blkEq _ _ _); conv => whnf))
    all_goals first
      | omega
      | rfl
      | trace_state
  · rintro ⟨k, v, n⟩ ⟨hk, hI⟩
    have hk : k ≤ l.length := hk
    have hI : runK w l k = (v, n) := hI
    have hK := run_kept hr l k
    have hC := run_cnt w l k
    rw [hI] at hK hC
    have hvr : worldR v = true := hK.r
    have hve : v.ev.length ≤ 1000000 := by have := hK.ev; have : v.ev.length ≤ w.ev.length + k := this; omega
    have hn : 0 ≤ n ∧ n ≤ k := hC
    have hw : IntKind.i64.wrap (n + 1) = n + 1 := wrap_i64 (by omega)
    have hend : k = l.length → R = v ∧ m = n := fun h => by
      rw [← h, hI] at hR
      exact ⟨(congrArg Prod.fst hR).symm, (congrArg Prod.snd hR).symm⟩
    by_cases hd : doneF v (l.getD k default) = true
    · have hnx : runK w l (k + 1) = (doF v (l.getD k default), n + 1) := by rw [run_done (by rw [hI]; exact hd), hI]
      repeat' (first | exact @id (emp _ = true) | (intro h; first | exact Bool.noConfusion h | (simp only [Qn] at h) | skip) | ((conv => whnf) <;> (first | exact trivial | apply Qa | apply And.intro | (exfalso; exact Bool.noConfusion (hd.symm.trans (by assumption))) | (refine CutE.at (A := Nat × Wd × Int) (k + 1, doF v (l.getD k default), n + 1) ?_) | (refine CutE.at (A := Wd × Act) (v, l.getD k default) ?_) | apply EntP.id 2 | apply Qb | apply Qc | apply Qd | apply Qe | apply Qf | apply Qg | apply Qh | apply Qi | exact QA | exact QP | refine QG ?_ | apply Qj | apply Qk | apply Ql | apply Qm | apply Qo | apply Qp | apply Qw | apply Qv | apply Qu | apply Qt | apply Qs | apply Qr | apply Qq | apply Qx | apply wrapS | apply Qy | (with_reducible exact lenNil) | apply Eq.refl)) | ((with_reducible first | apply Y1 | apply Y2 | apply Y3 | show blkEq _ _ _); conv => whnf))
      all_goals try simp only [Int.toNat_natCast] at *
      all_goals first
        | omega
        | (show l.length - (k + 1) < l.length - k; omega)
        | (show k + 1 ≤ l.length; omega)
        | exact hvr
        | exact hve
        | exact hnx
        | (rw [hw])
        | (rw [(hend (by omega)).1])
        | (rw [(hend (by omega)).2])
        | (exfalso; exact Bool.noConfusion (hd.symm.trans (by assumption)))
        | trace_state
    · have hd0 : doneF v (l.getD k default) = false := by simpa using hd
      have hnx : runK w l (k + 1) = (v, n) := by rw [run_not (by rw [hI]; exact hd), hI]
      repeat' (first | exact @id (emp _ = true) | (intro h; first | exact Bool.noConfusion h | (simp only [Qn] at h) | skip) | ((conv => whnf) <;> (first | exact trivial | apply Qa | apply And.intro | (exfalso; exact Bool.noConfusion (hd0.symm.trans (by assumption))) | (refine CutE.at (A := Nat × Wd × Int) (k + 1, v, n) ?_) | (refine CutE.at (A := Wd × Act) (v, l.getD k default) ?_) | apply EntP.id 2 | apply Qb | apply Qc | apply Qd | apply Qe | apply Qf | apply Qg | apply Qh | apply Qi | exact QA | exact QP | refine QG ?_ | apply Qj | apply Qk | apply Ql | apply Qm | apply Qo | apply Qp | apply Qw | apply Qv | apply Qu | apply Qt | apply Qs | apply Qr | apply Qq | apply Qx | apply wrapS | apply Qy | (with_reducible exact lenNil) | apply Eq.refl)) | ((with_reducible first | apply Y1 | apply Y2 | apply Y3 | show blkEq _ _ _); conv => whnf))
      all_goals try simp only [Int.toNat_natCast] at *
      all_goals first
        | omega
        | (show l.length - (k + 1) < l.length - k; omega)
        | (show k + 1 ≤ l.length; omega)
        | exact hvr
        | exact hve
        | exact hnx
        | (rw [(hend (by omega)).1])
        | (rw [(hend (by omega)).2])
        | (exfalso; exact Bool.noConfusion (hd0.symm.trans (by assumption)))
        | trace_state
end Go.Eng
