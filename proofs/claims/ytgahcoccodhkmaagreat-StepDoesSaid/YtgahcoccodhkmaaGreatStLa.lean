/- A part of the walks, and of the machine that proves them (StLa). -/
import Derived.Test.YtgahcoccodhkmaaGreatStAl
set_option linter.unusedVariables false
set_option linter.unusedSimpArgs false
namespace Go.Eng
open Go Go.Proofs
theorem CutE.goS1 {p : Gh 16 (Bool × Wd × Bool) → Prop} {code : List Ins} {ws ts : List Int} {d : Int} {l : List (List Put)} {th : List Th} {ev : List Ev} (h : p ⟨(true, ⟨code, ws, ts, d, l, th, ev⟩, true)⟩) : CutE (Gh 16 (Bool × Wd × Bool)) p := ⟨⟨_, h⟩⟩
def La1 : List (Nat × FSpec) := [(10, sAlive8), (8, sWorld8), (22, sCanA), (9, sStepA), (26, sFlushA), (24, sHasA), (27, sRCanA), (28, sStep8), (29, sFlush8), (20, sSameT)]
theorem La1_ok : GOK Tryz.prog (tab La1) := gok_cons alive8_ok (gok_cons world8_ok (gok_cons canA_ok (gok_cons stepA_ok (gok_cons flushA_ok (gok_cons hasA_ok (gok_cons rcanA_ok (gok_cons step8_ok (gok_cons flush8_ok (gok_cons sSameT_ok (gok_nil _))))))))))
def sLDoes : FSpec := spec (List Ins × List Int × List Int × List Int × Int × List Act × Int) (fun (code, st, ws, ts, d, acts, i) => [.c (codeS code), .c (intsS st), .c (intsS ws), .c (intsS ts), .i d, .c (actsS acts), .i i]) (fun _ => True) fun _ => .b true
set_option maxHeartbeats 4000000 in
set_option maxRecDepth 100000 in
theorem ldoes_ok : Meets Tryz.prog 7 sLDoes := by
  refine meets_plain La1_ok rfl [2] (fn := Tryz.f7) rfl rfl rfl (by decide) fun ⟨code, st, ws, ts, d, acts, i⟩ _ => ?_
  have hwk := world_wok code st ws ts d acts
  (conv => whnf)
  apply CutP.up (G := Wd) (fun v => Wok v) [6, 15] (fun _ => [(15, .s (.c (.ptr 0 0)))]) (fun v => [(0, .row 33 (wdC true v))]) 1
  apply And.intro
  · repeat' (first | exact @id (emp _ = true) | (intro h; first | exact Bool.noConfusion h | (simp only [Qn] at h) | skip) | ((conv => whnf) <;> (first | exact trivial | apply Qa | apply And.intro | (refine CutE.at (A := Wd) (worldF code st ws ts d acts) ?_) | (refine CutE.at (code, st, ws, ts, d, acts) ?_) | apply Qb | apply Qc | apply Qd | apply Qe | apply Qf | apply Qg | apply Qh | apply Qi | exact QA | exact QP | refine QG ?_ | apply Qj | apply Qk | apply Ql | apply Qm | apply Qo | apply Qp | apply Qw | apply Qv | apply Qu | apply Qt | apply Qs | apply Qr | apply Qq | apply Qx | apply wrapS | apply Qy | (with_reducible exact lenNil) | apply Eq.refl)) | ((with_reducible first | apply Y1 | apply Y2 | apply Y3 | show blkEq _ _ _); conv => whnf))
    all_goals first
      | exact hwk
      | trace_state
  clear hwk
  intro v hv
  have hv : Wok v := hv
  have he := hv.e
  cases hh : hasW v i with
  | false =>
    have hO : Out8 v i := ⟨hv, hh⟩
    repeat' (first | exact @id (emp _ = true) | (intro h; first | exact Bool.noConfusion h | (simp only [Qn] at h) | skip) | ((conv => whnf) <;> (first | exact trivial | apply Qa | apply And.intro | (apply CallP.inr; apply CallP.inr; apply CallP.inl; apply CallP.nb; apply CutE.gh (n := 3) ((v, i))) | (apply CallP.inr; apply CallP.inr; apply CallP.nb; apply CutE.gh (n := 8) ((v, i))) | (apply CallP.inr; apply CallP.inr; apply CallP.nb; apply CutE.gh (n := 11) ((v, i))) | (apply CallP.inr; apply CallP.inl; apply CallP.nb; apply CutE.gh (n := 13) ((v, i))) | apply CutE.goS1 | apply Qb | apply Qc | apply Qd | apply Qe | apply Qf | apply Qg | apply Qh | apply Qi | exact QA | exact QP | refine QG ?_ | apply Qj | apply Qk | apply Ql | apply Qm | apply Qo | apply Qp | apply Qw | apply Qv | apply Qu | apply Qt | apply Qs | apply Qr | apply Qq | apply Qx | apply wrapS | apply Qy | (with_reducible exact lenNil) | apply Eq.refl)) | ((with_reducible first | apply Y1 | apply Y2 | apply Y3 | show blkEq _ _ _); conv => whnf))
    all_goals first
      | exact hO
      | exact hh
      | exact smallY0
      | trace_state
  | true =>
    have hI : In8 v i := ⟨hv, hh⟩
    have hlen := world_len hv.r
    have hi := hasW_iff.1 hh
    have hF := (flushF_wok hv hh).y
    by_cases hc : canF v i = true
    · obtain ⟨k1, k2⟩ := stepF_wok hv hh hc
      have hS : SmallY (stepF v i) := smallY k1 (Nat.le_trans k2 (by have := hv.ev; omega))
      by_cases hl : 0 < (v.l.getD i.toNat default).length
      · repeat' (first | exact @id (emp _ = true) | (intro h; first | exact Bool.noConfusion h | (simp only [Qn] at h) | skip) | ((conv => whnf) <;> (first | exact trivial | apply Qa | apply And.intro | (apply CallP.inl; apply CallP.nb; apply CutE.gh (n := 1) ((v, i))) | (apply CallP.inl; apply CallP.nb; apply CutE.gh (n := 6) ((v, i))) | (apply CallP.inl; apply CallP.nb; apply CutE.gh (n := 9) ((v, i))) | (apply CallP.inl; apply CallP.nb; apply CutE.gh (n := 12) ((v, i))) | (apply CallP.inl; apply CallP.nb; apply CutE.gh (n := 14) ((v, i))) | (refine CutE.at (A := Wd × Int) (v, i) ?_) | apply CutE.goS1 | apply Qb | apply Qc | apply Qd | apply Qe | apply Qf | apply Qg | apply Qh | apply Qi | exact QA | exact QP | refine QG ?_ | apply Qj | apply Qk | apply Ql | apply Qm | apply Qo | apply Qp | apply Qw | apply Qv | apply Qu | apply Qt | apply Qs | apply Qr | apply Qq | apply Qx | apply wrapS | apply Qy | (with_reducible exact lenNil) | apply Eq.refl)) | ((with_reducible first | apply Y1 | apply Y2 | apply Y3 | show blkEq _ _ _); conv => whnf))
        all_goals first
          | exact ⟨hI, hc⟩
          | exact ⟨hI, hl⟩
          | exact hI
          | exact hh
          | exact ⟨hI.o, he⟩
          | exact ⟨hI.o, hl⟩
          | exact hI.o
          | exact hI.o.r
          | exact hi.1
          | exact hi.2
          | exact hc
          | exact hl
          | exact he
          | exact hS
          | exact hF
          | exact smallY0
          | omega
          | trace_state
      · repeat' (first | exact @id (emp _ = true) | (intro h; first | exact Bool.noConfusion h | (simp only [Qn] at h) | skip) | ((conv => whnf) <;> (first | exact trivial | apply Qa | apply And.intro | (apply CallP.inl; apply CallP.nb; apply CutE.gh (n := 1) ((v, i))) | (apply CallP.inl; apply CallP.nb; apply CutE.gh (n := 6) ((v, i))) | (apply CallP.inr; apply CallP.inl; apply CallP.nb; apply CutE.gh (n := 10) ((v, i))) | (apply CallP.inl; apply CallP.nb; apply CutE.gh (n := 12) ((v, i))) | (apply CallP.inl; apply CallP.nb; apply CutE.gh (n := 14) ((v, i))) | (refine CutE.at (A := Wd × Int) (v, i) ?_) | apply CutE.goS1 | apply Qb | apply Qc | apply Qd | apply Qe | apply Qf | apply Qg | apply Qh | apply Qi | exact QA | exact QP | refine QG ?_ | apply Qj | apply Qk | apply Ql | apply Qm | apply Qo | apply Qp | apply Qw | apply Qv | apply Qu | apply Qt | apply Qs | apply Qr | apply Qq | apply Qx | apply wrapS | apply Qy | (with_reducible exact lenNil) | apply Eq.refl)) | ((with_reducible first | apply Y1 | apply Y2 | apply Y3 | show blkEq _ _ _); conv => whnf))
        all_goals first
          | exact ⟨hI, hc⟩
          | exact ⟨hI, hl⟩
          | exact hI
          | exact hh
          | exact ⟨hI.o, he⟩
          | exact ⟨hI.o, hl⟩
          | exact hI.o
          | exact hI.o.r
          | exact hi.1
          | exact hi.2
          | exact hc
          | exact hl
          | exact he
          | exact hS
          | exact hF
          | exact smallY0
          | omega
          | trace_state
    · have hc : canF v i = false := by simpa using hc
      by_cases hl : 0 < (v.l.getD i.toNat default).length
      · repeat' (first | exact @id (emp _ = true) | (intro h; first | exact Bool.noConfusion h | (simp only [Qn] at h) | skip) | ((conv => whnf) <;> (first | exact trivial | apply Qa | apply And.intro | (apply CallP.inr; apply CallP.inl; apply CallP.nb; apply CutE.gh (n := 2) ((v, i))) | (apply CallP.inr; apply CallP.inl; apply CallP.nb; apply CutE.gh (n := 7) ((v, i))) | (apply CallP.inl; apply CallP.nb; apply CutE.gh (n := 9) ((v, i))) | (apply CallP.inl; apply CallP.nb; apply CutE.gh (n := 12) ((v, i))) | (apply CallP.inr; apply CallP.nb; apply CutE.gh (n := 15) ((v, i))) | (refine CutE.at (A := Wd × Int) (v, i) ?_) | apply CutE.goS1 | apply Qb | apply Qc | apply Qd | apply Qe | apply Qf | apply Qg | apply Qh | apply Qi | exact QA | exact QP | refine QG ?_ | apply Qj | apply Qk | apply Ql | apply Qm | apply Qo | apply Qp | apply Qw | apply Qv | apply Qu | apply Qt | apply Qs | apply Qr | apply Qq | apply Qx | apply wrapS | apply Qy | (with_reducible exact lenNil) | apply Eq.refl)) | ((with_reducible first | apply Y1 | apply Y2 | apply Y3 | show blkEq _ _ _); conv => whnf))
        all_goals first
          | exact ⟨hI, hc⟩
          | exact ⟨hI, hl⟩
          | exact hI
          | exact hh
          | exact ⟨hI.o, he⟩
          | exact ⟨hI.o, hl⟩
          | exact hI.o
          | exact hI.o.r
          | exact hi.1
          | exact hi.2
          | exact hc
          | exact hl
          | exact he
          | exact hS
          | exact hF
          | exact smallY0
          | omega
          | trace_state
      · repeat' (first | exact @id (emp _ = true) | (intro h; first | exact Bool.noConfusion h | (simp only [Qn] at h) | skip) | ((conv => whnf) <;> (first | exact trivial | apply Qa | apply And.intro | (apply CallP.inr; apply CallP.inl; apply CallP.nb; apply CutE.gh (n := 2) ((v, i))) | (apply CallP.inr; apply CallP.inl; apply CallP.nb; apply CutE.gh (n := 7) ((v, i))) | (apply CallP.inr; apply CallP.inl; apply CallP.nb; apply CutE.gh (n := 10) ((v, i))) | (apply CallP.inl; apply CallP.nb; apply CutE.gh (n := 12) ((v, i))) | (apply CallP.inr; apply CallP.nb; apply CutE.gh (n := 15) ((v, i))) | (refine CutE.at (A := Wd × Int) (v, i) ?_) | apply CutE.goS1 | apply Qb | apply Qc | apply Qd | apply Qe | apply Qf | apply Qg | apply Qh | apply Qi | exact QA | exact QP | refine QG ?_ | apply Qj | apply Qk | apply Ql | apply Qm | apply Qo | apply Qp | apply Qw | apply Qv | apply Qu | apply Qt | apply Qs | apply Qr | apply Qq | apply Qx | apply wrapS | apply Qy | (with_reducible exact lenNil) | apply Eq.refl)) | ((with_reducible first | apply Y1 | apply Y2 | apply Y3 | show blkEq _ _ _); conv => whnf))
        all_goals first
          | exact ⟨hI, hc⟩
          | exact ⟨hI, hl⟩
          | exact hI
          | exact hh
          | exact ⟨hI.o, he⟩
          | exact ⟨hI.o, hl⟩
          | exact hI.o
          | exact hI.o.r
          | exact hi.1
          | exact hi.2
          | exact hc
          | exact hl
          | exact he
          | exact hS
          | exact hF
          | exact smallY0
          | omega
          | trace_state
end Go.Eng
