/- A part of the walks, and of the machine that proves them (StLb). -/
import Derived.Test.YtgahcoccodhkmaaGreatStAl
set_option linter.unusedVariables false
set_option linter.unusedSimpArgs false
namespace Go.Eng
open Go Go.Proofs
structure NS (v n : Wd) : Prop where
  a : Wok v
  b : Wok n
  len : n.th.length = v.th.length
  stop : ∀ k, ¬ (v.th.getD k default).st = 0 → Stopped (v.th.getD k default) (n.th.getD k default)
theorem run_ns {v : Wd} (h : worldR v = true ∧ v.ev.length ≤ 80) (acts : List Act) : NS v (runK v (acts.take 80) (acts.take 80).length).1 := by
  have hk := run_kept h.1 (acts.take 80) (acts.take 80).length
  have h2 : (acts.take 80).length ≤ 80 := List.length_take_le _ _
  have h3 := hk.ev
  exact ⟨⟨h.1, by omega⟩, ⟨hk.r, by omega⟩, hk.n, fun k hs => run_stopped h.1 (acts.take 80) hs _⟩
def Lb1 : List (Nat × FSpec) := [(10, sAlive8), (8, sWorld8), (22, sCanA), (9, sStepA), (23, sRun8)]
theorem Lb1_ok : GOK Tryz.prog (tab Lb1) := gok_cons alive8_ok (gok_cons world8_ok (gok_cons canA_ok (gok_cons stepA_ok (gok_cons run8_ok (gok_nil _)))))
def sLStops : FSpec := spec (List Ins × List Int × List Int × List Int × Int × List Act × List Act) (fun (code, st, ws, ts, d, acts, more) => [.c (codeS code), .c (intsS st), .c (intsS ws), .c (intsS ts), .i d, .c (actsS acts), .c (actsS more)]) (fun _ => True) fun _ => .b true
set_option maxHeartbeats 4000000 in
set_option maxRecDepth 100000 in
theorem lstops_ok : Meets Tryz.prog 5 sLStops := by
  refine meets_plain Lb1_ok rfl [2, 3] (fn := Tryz.f5) rfl rfl rfl (by decide) fun ⟨code, st, ws, ts, d, acts, more⟩ _ => ?_
  have hwk := world_kept code st ws ts d acts
  (conv => whnf)
  apply CutP.up (G := Wd) (fun v => worldR v = true ∧ v.ev.length ≤ 80) [6, 15] (fun _ => [(15, .s (.c (.ptr 0 0)))]) (fun v => [(0, .row 33 (wdC true v))]) 1
  apply And.intro
  · repeat' (first | exact @id (emp _ = true) | (intro h; first | exact Bool.noConfusion h | (simp only [Qn] at h) | skip) | ((conv => whnf) <;> (first | exact trivial | apply Qa | apply And.intro | (refine CutE.at (A := Wd) (worldF code st ws ts d acts) ?_) | (refine CutE.at (code, st, ws, ts, d, acts) ?_) | apply Qb | apply Qc | apply Qd | apply Qe | apply Qf | apply Qg | apply Qh | apply Qi | exact QA | exact QP | refine QG ?_ | apply Qj | apply Qk | apply Ql | apply Qm | apply Qo | apply Qp | apply Qw | apply Qv | apply Qu | apply Qt | apply Qs | apply Qr | apply Qq | apply Qx | apply wrapS | apply Qy | (with_reducible exact lenNil) | apply Eq.refl)) | ((with_reducible first | apply Y1 | apply Y2 | apply Y3 | show blkEq _ _ _); conv => whnf))
    all_goals first
      | exact hwk
      | exact hwk.1
      | exact hwk.2
      | trace_state
  clear hwk
  intro v hv
  have hv : worldR v = true ∧ v.ev.length ≤ 80 := hv
  have hns := run_ns hv more
  have h80 : (more.take 80).length ≤ 80 := List.length_take_le _ _
  (conv => whnf)
  apply CutP.upZ (G := Wd × Wd) (fun (v, n) => NS v n) [15, 16] (fun _ => [(15, .s (.c (.ptr 0 0))), (16, .s (.c (.ptr 1 0)))]) (fun (v, n) => [(0, .row 33 (wdC true v)), (1, .row 33 (wdC true n))]) 2
  apply And.intro
  · repeat' (first | exact @id (emp _ = true) | (intro h; first | exact Bool.noConfusion h | (simp only [Qn] at h) | skip) | ((conv => whnf) <;> (first | exact trivial | apply Qa | apply And.intro | (refine CutE.at (A := Wd × Wd) (v, (runK v (more.take 80) (more.take 80).length).1) ?_) | (refine CutE.at (A := Wd × List Act) (v, more.take 80) ?_) | apply Qb | apply Qc | apply Qd | apply Qe | apply Qf | apply Qg | apply Qh | apply Qi | exact QA | exact QP | refine QG ?_ | apply Qj | apply Qk | apply Ql | apply Qm | apply Qo | apply Qp | apply Qw | apply Qv | apply Qu | apply Qt | apply Qs | apply Qr | apply Qq | apply Qx | apply wrapS | apply Qy | (with_reducible exact lenNil) | apply Eq.refl)) | ((with_reducible first | apply Y1 | apply Y2 | apply Y3 | show blkEq _ _ _); conv => whnf))
    all_goals first
      | exact hns
      | exact hv.1
      | omega
      | exact Int.le_refl _
      | exact take_lo (m := 80)
      | exact take_hi (m := 80)
      | exact take_len (m := 80)
      | (apply take_cell (m := 80); assumption)
      | (show v.ev.length ≤ 500000; omega)
      | trace_state
  clear hns h80 hv
  rintro ⟨v, n⟩ hns
  have hns : NS v n := hns
  have hlv := world_len hns.a.r
  repeat' (first | exact @id (emp _ = true) | (intro h; first | exact Bool.noConfusion h | (simp only [Qn] at h) | skip) | ((conv => whnf) <;> (first | exact trivial | apply Qa | apply And.intro | apply Qb | apply Qc | apply Qd | apply Qe | apply Qf | apply Qg | apply Qh | apply Qi | exact QA | exact QP | refine QG ?_ | apply Qj | apply Qk | apply Ql | apply Qm | apply Qo | apply Qp | apply Qw | apply Qv | apply Qu | apply Qt | apply Qs | apply Qr | apply Qq | apply Qx | apply wrapS | apply Qy | (with_reducible exact lenNil) | apply Eq.refl)) | ((with_reducible first | apply Y1 | apply Y2 | apply Y3 | show blkEq _ _ _); conv => whnf))
  apply LoopP.up (G := Nat) (fun k => k ≤ v.th.length) [16, 45, 46, 47] (fun k => [(47, .i k)]) (fun _ => []) 2 (fun k => v.th.length - k)
  apply And.intro
  · refine CutE.at 0 ?_
    repeat' (first | exact @id (emp _ = true) | (intro h; first | exact Bool.noConfusion h | (simp only [Qn] at h) | skip) | ((conv => whnf) <;> (first | exact trivial | apply Qa | apply And.intro | apply EntP.id 2 | apply Qb | apply Qc | apply Qd | apply Qe | apply Qf | apply Qg | apply Qh | apply Qi | exact QA | exact QP | refine QG ?_ | apply Qj | apply Qk | apply Ql | apply Qm | apply Qo | apply Qp | apply Qw | apply Qv | apply Qu | apply Qt | apply Qs | apply Qr | apply Qq | apply Qx | apply wrapS | apply Qy | (with_reducible exact lenNil) | apply Eq.refl)) | ((with_reducible first | apply Y1 | apply Y2 | apply Y3 | show blkEq _ _ _); conv => whnf))
    all_goals first
      | omega
      | trace_state
  intro k hk
  have hk : k ≤ v.th.length := hk
  have e0 : (k : Int).toNat = k := Int.toNat_natCast k
  have hlen := hns.len
  by_cases hs : (v.th.getD (k : Int).toNat default).st = 0
  · repeat' (first | exact @id (emp _ = true) | (intro h; first | exact Bool.noConfusion h | (simp only [Qn] at h) | skip) | ((conv => whnf) <;> (first | exact trivial | apply Qa | apply And.intro | exact absurd hs (by assumption) | (refine CutE.at (A := Nat) (k + 1) ?_) | apply EntP.id 2 | apply Qb | apply Qc | apply Qd | apply Qe | apply Qf | apply Qg | apply Qh | apply Qi | exact QA | exact QP | refine QG ?_ | apply Qj | apply Qk | apply Ql | apply Qm | apply Qo | apply Qp | apply Qw | apply Qv | apply Qu | apply Qt | apply Qs | apply Qr | apply Qq | apply Qx | apply wrapS | apply Qy | (with_reducible exact lenNil) | apply Eq.refl)) | ((with_reducible first | apply Y1 | apply Y2 | apply Y3 | show blkEq _ _ _); conv => whnf))
    all_goals first
      | omega
      | (show v.th.length - (k + 1) < v.th.length - k; omega)
      | (show k + 1 ≤ v.th.length; omega)
      | trace_state
  have hS : Stopped (v.th.getD (k : Int).toNat default) (n.th.getD (k : Int).toNat default) := by rw [e0] at hs ⊢; exact hns.stop k hs
  have hcan : canF n k = false := canF_st hS.st
  have hI : k < v.th.length → In8 n k := fun h => ⟨hns.b, hasW_iff.2 ⟨by omega, by omega⟩⟩
  have p := hS.pc
  have f := hS.fa
  have r0 : (n.th.getD (k : Int).toNat default).r0 = (v.th.getD (k : Int).toNat default).r0 := hS.rg 0
  have r1 : (n.th.getD (k : Int).toNat default).r1 = (v.th.getD (k : Int).toNat default).r1 := hS.rg 1
  have r2 : (n.th.getD (k : Int).toNat default).r2 = (v.th.getD (k : Int).toNat default).r2 := hS.rg 2
  have r3 : (n.th.getD (k : Int).toNat default).r3 = (v.th.getD (k : Int).toNat default).r3 := hS.rg 3
  have r4 : (n.th.getD (k : Int).toNat default).r4 = (v.th.getD (k : Int).toNat default).r4 := hS.rg 4
  have r5 : (n.th.getD (k : Int).toNat default).r5 = (v.th.getD (k : Int).toNat default).r5 := hS.rg 5
  have r6 : (n.th.getD (k : Int).toNat default).r6 = (v.th.getD (k : Int).toNat default).r6 := hS.rg 6
  have r7 : (n.th.getD (k : Int).toNat default).r7 = (v.th.getD (k : Int).toNat default).r7 := hS.rg 7
  repeat' (first | exact @id (emp _ = true) | (intro h; first | exact Bool.noConfusion h | (simp only [Qn] at h) | skip) | ((conv => whnf) <;> (first | exact trivial | apply Qa | apply And.intro | exact absurd (by assumption) hs | exact absurd p (by assumption) | (apply CallP.inr; apply CallP.inl; apply CallP.nb; apply CutE.gh (n := 2) ((n, (k : Int)))) | (apply CallP.inr; apply CallP.inl; apply CallP.nb; apply CutE.gh (n := 7) ((n, (k : Int)))) | (refine CutE.at (A := Nat) (k + 1) ?_) | apply EntP.id 2 | apply Qb | apply Qc | apply Qd | apply Qe | apply Qf | apply Qg | apply Qh | apply Qi | exact QA | exact QP | refine QG ?_ | apply Qj | apply Qk | apply Ql | apply Qm | apply Qo | apply Qp | apply Qw | apply Qv | apply Qu | apply Qt | apply Qs | apply Qr | apply Qq | apply Qx | apply wrapS | apply Qy | (with_reducible exact lenNil) | apply Eq.refl)) | ((with_reducible first | apply Y1 | apply Y2 | apply Y3 | show blkEq _ _ _); conv => whnf))
  all_goals first
    | omega
    | (show v.th.length - (k + 1) < v.th.length - k; omega)
    | (show k + 1 ≤ v.th.length; omega)
    | exact ⟨hI (by omega), hcan⟩
    | exact hI (by omega)
    | exact hcan
    | (exfalso; exact absurd (f (by assumption)).1 (by assumption))
    | (exfalso; exact absurd (f (by assumption)).2 (by assumption))
    | (exfalso; apply h; rw [r0, r1, r2, r3, r4, r5, r6, r7])
    | (exfalso; exact absurd rfl (by assumption))
    | trace_state
end Go.Eng
