/- A part of the walks, and of the machine that proves them (LtW). -/
import Derived.Test.YtgahcoccodhkmaaDoorLtR
import Derived.Test.YtgahcoccodhkmaaDoorLtPm
set_option linter.unusedVariables false
set_option linter.unusedSimpArgs false
namespace Go.Eng
open Go Go.Proofs
set_option maxRecDepth 100000 in
theorem from_ok : ∀ n, Meets Tryd.prog 17 (sFrom n)
  | 0 => by
    refine meets_lent 7 (gok_nil _) rfl [] (fn := Tryd.f17) rfl rfl rfl (by decide) (fun _ => rfl) (fun _ => rfl) (by decide) fun ⟨w, d, ms, s, V, O, ws, ts, dd, l, a0, a1, a2, n0, n1, n2⟩ h => ?_
    exact absurd (FromPre.mu (show FromPre 0 w d ms s V O ws ts dd l a0 a1 a2 n0 n1 n2 from h)) (Nat.not_lt_zero _)
  | n + 1 => from_succ (from_ok n)
def sNanI : FSpec := spec Int (fun x => [.i x]) (fun _ => True) fun _ => .b false
set_option maxRecDepth 100000 in
theorem nanI_ok : Meets Tryd.prog 74 sNanI := by
  refine meets_plain (gok_nil _) rfl [] (fn := Tryd.f74) rfl rfl rfl (by decide) fun x _ => ?_
  repeat' (first | exact @id (emp _ = true) | (intro h; first | exact Bool.noConfusion h | (simp only [Qn] at h) | skip) | ((conv => whnf) <;> (first | exact trivial | apply Qa | apply And.intro | apply Qb | apply Qc | apply Qd | apply Qe | apply Qf | apply Qg | apply Qh | apply Qi | exact QA | exact QP | refine QG ?_ | apply Qj | apply Qk | apply Ql | apply Qm | apply Qo | apply Qp | apply Qw | apply Qv | apply Qu | apply Qt | apply Qs | apply Qr | apply Qq | apply Qx | apply wrapS | apply Qy | (with_reducible exact lenNil) | apply Eq.refl)) | ((with_reducible first | apply Y1 | apply Y2 | apply Y3 | show blkEq _ _ _); conv => whnf))
  all_goals first
    | (show false = (x != x); simp)
    | trace_state
def cmpI (x y : Int) : Int := if x < y then -1 else if x > y then 1 else 0
def sCmpI : FSpec := spec (Int × Int) (fun (x, y) => [.i x, .i y]) (fun _ => True) fun (x, y) => .i (cmpI x y)
set_option maxRecDepth 100000 in
theorem cmpI_ok : Meets Tryd.prog 50 sCmpI := by
  refine meets_plain (gok_cons nanI_ok (gok_nil _) : GOK Tryd.prog (tab [(74, sNanI)])) rfl [] (fn := Tryd.f50) rfl rfl rfl (by decide) fun ⟨x, y⟩ _ => ?_
  repeat' (first | exact @id (emp _ = true) | (intro h; first | exact Bool.noConfusion h | (simp only [Qn] at h) | skip) | ((conv => whnf) <;> (first | exact trivial | apply Qa | apply And.intro | apply Qb | apply Qc | apply Qd | apply Qe | apply Qf | apply Qg | apply Qh | apply Qi | exact QA | exact QP | refine QG ?_ | apply Qj | apply Qk | apply Ql | apply Qm | apply Qo | apply Qp | apply Qw | apply Qv | apply Qu | apply Qt | apply Qs | apply Qr | apply Qq | apply Qx | apply wrapS | apply Qy | (with_reducible exact lenNil) | apply Eq.refl)) | ((with_reducible first | apply Y1 | apply Y2 | apply Y3 | show blkEq _ _ _); conv => whnf))
  all_goals first
    | (unfold cmpI; rw [if_pos (by assumption)]; done)
    | (unfold cmpI; rw [if_neg (by assumption), if_pos (by assumption)]; done)
    | (unfold cmpI; rw [if_neg (by assumption), if_neg (by assumption)]; done)
    | trace_state
def sCmpL : FSpec := spec (List Int × List Int) (fun (a, b) => [.c (intsS a), .c (intsS b)]) (fun (a, b) => a.length ≤ 1000000 ∧ b.length ≤ 1000000) fun (a, b) => .i (cmpL a b)
theorem cmpL_drop {a b : List Int} {k : Nat} (ha : k < a.length) (hb : k < b.length) : cmpL (a.drop k) (b.drop k) = if cmpI (a.getD k default) (b.getD k default) = 0 then cmpL (a.drop (k + 1)) (b.drop (k + 1)) else cmpI (a.getD k default) (b.getD k default) := by
  rw [drop_getD (d := default) ha, drop_getD (d := default) hb, cmpL]
  generalize a.getD k default = x
  generalize b.getD k default = y
  unfold cmpI
  by_cases h1 : x < y
  · rw [if_pos h1, if_pos h1, if_neg (by decide)]
  · by_cases h2 : y < x
    · rw [if_neg h1, if_pos h2, if_neg h1, if_pos h2, if_neg (by decide)]
    · rw [if_neg h1, if_neg h2, if_neg h1, if_neg h2, if_pos rfl]
theorem cmpL_nilR {a b : List Int} {k : Nat} (ha : k < a.length) (hb : b.length ≤ k) : cmpL (a.drop k) (b.drop k) = 1 := by
  rw [drop_getD (d := default) ha, List.drop_eq_nil_of_le hb]; rfl
theorem cmpL_nilL {a b : List Int} {k : Nat} (ha : a.length ≤ k) (hb : k < b.length) : cmpL (a.drop k) (b.drop k) = -1 := by
  rw [drop_getD (d := default) hb, List.drop_eq_nil_of_le ha]; rfl
theorem cmpL_nilB {a b : List Int} {k : Nat} (ha : a.length ≤ k) (hb : b.length ≤ k) : cmpL (a.drop k) (b.drop k) = 0 := by
  rw [List.drop_eq_nil_of_le ha, List.drop_eq_nil_of_le hb]; rfl
set_option maxHeartbeats 4000000 in
set_option maxRecDepth 100000 in
theorem cmpL_ok : Meets Tryd.prog 23 sCmpL := by
  refine meets_plain (gok_cons cmpI_ok (gok_nil _) : GOK Tryd.prog (tab [(50, sCmpI)])) rfl [] (fn := Tryd.f23) rfl rfl rfl (by decide) fun ⟨a, b⟩ h => ?_
  obtain ⟨ha, hb⟩ : a.length ≤ 1000000 ∧ b.length ≤ 1000000 := h
  repeat' (first | exact @id (emp _ = true) | (intro h; first | exact Bool.noConfusion h | (simp only [Qn] at h) | skip) | ((conv => whnf) <;> (first | exact trivial | apply Qa | apply And.intro | apply Qb | apply Qc | apply Qd | apply Qe | apply Qf | apply Qg | apply Qh | apply Qi | exact QA | exact QP | refine QG ?_ | apply Qj | apply Qk | apply Ql | apply Qm | apply Qo | apply Qp | apply Qw | apply Qv | apply Qu | apply Qt | apply Qs | apply Qr | apply Qq | apply Qx | apply wrapS | apply Qy | (with_reducible exact lenNil) | apply Eq.refl)) | ((with_reducible first | apply Y1 | apply Y2 | apply Y3 | show blkEq _ _ _); conv => whnf))
  apply LoopP.up (G := Nat) (fun k => k ≤ a.length ∧ k ≤ b.length ∧ cmpL a b = cmpL (a.drop k) (b.drop k)) [0, 1, 9, 10, 11] (fun k => [(11, .i k)]) (fun _ => []) 0 (fun k => a.length - k)
  apply And.intro
  · refine CutE.at 0 ?_
    repeat' (first | exact @id (emp _ = true) | (intro h; first | exact Bool.noConfusion h | (simp only [Qn] at h) | skip) | ((conv => whnf) <;> (first | exact trivial | apply Qa | apply And.intro | apply Qb | apply Qc | apply Qd | apply Qe | apply Qf | apply Qg | apply Qh | apply Qi | exact QA | exact QP | refine QG ?_ | apply Qj | apply Qk | apply Ql | apply Qm | apply Qo | apply Qp | apply Qw | apply Qv | apply Qu | apply Qt | apply Qs | apply Qr | apply Qq | apply Qx | apply wrapS | apply Qy | (with_reducible exact lenNil) | apply Eq.refl)) | ((with_reducible first | apply Y1 | apply Y2 | apply Y3 | show blkEq _ _ _); conv => whnf))
    all_goals first
      | exact Nat.zero_le _
      | rfl
  rintro k ⟨hk, hkb, hI⟩
  repeat' (first | exact @id (emp _ = true) | (intro h; first | exact Bool.noConfusion h | (simp only [Qn] at h) | skip) | ((conv => whnf) <;> (first | exact trivial | apply Qa | apply And.intro | refine CutE.at (A := Nat) (k + 1) ?_ | apply Qb | apply Qc | apply Qd | apply Qe | apply Qf | apply Qg | apply Qh | apply Qi | exact QA | exact QP | refine QG ?_ | apply Qj | apply Qk | apply Ql | apply Qm | apply Qo | apply Qp | apply Qw | apply Qv | apply Qu | apply Qt | apply Qs | apply Qr | apply Qq | apply Qx | apply wrapS | apply Qy | (with_reducible exact lenNil) | apply Eq.refl)) | ((with_reducible first | apply Y1 | apply Y2 | apply Y3 | show blkEq _ _ _); conv => whnf))
  all_goals try simp only [Int.toNat_natCast] at *
  all_goals first
    | omega
    | (rw [hI, cmpL_nilR (by omega) (by omega)]; done)
    | (rw [hI, cmpL_drop (by omega) (by omega), if_neg (by assumption)]; done)
    | (rw [hI, cmpL_drop (by omega) (by omega), if_pos (by assumption)]; done)
    | (rw [hI, cmpL_nilL (by omega) (by omega)]; done)
    | (rw [hI, cmpL_nilB (by omega) (by omega)]; done)
    | trace_state
def sEqL : FSpec := spec (List Int × List Int) (fun (a, b) => [.c (intsS a), .c (intsS b)]) (fun (a, _) => a.length ≤ 1000000) fun (a, b) => .b (decide (a = b))
set_option maxHeartbeats 4000000 in
set_option maxRecDepth 100000 in
theorem eqL_ok : Meets Tryd.prog 25 sEqL := by
  refine meets_plain (gok_nil _) rfl [] (fn := Tryd.f25) rfl rfl rfl (by decide) fun ⟨a, b⟩ hl => ?_
  have hl : a.length ≤ 1000000 := hl
  repeat' (first | exact @id (emp _ = true) | (intro h; first | exact Bool.noConfusion h | (simp only [Qn] at h) | skip) | ((conv => whnf) <;> (first | exact trivial | apply Qa | apply And.intro | apply Qb | apply Qc | apply Qd | apply Qe | apply Qf | apply Qg | apply Qh | apply Qi | exact QA | exact QP | refine QG ?_ | apply Qj | apply Qk | apply Ql | apply Qm | apply Qo | apply Qp | apply Qw | apply Qv | apply Qu | apply Qt | apply Qs | apply Qr | apply Qq | apply Qx | apply wrapS | apply Qy | (with_reducible exact lenNil) | apply Eq.refl)) | ((with_reducible first | apply Y1 | apply Y2 | apply Y3 | show blkEq _ _ _); conv => whnf))
  · simp only [false_eq_decide_iff, decide_eq_false_iff_not]
    rintro rfl
    exact absurd rfl (by assumption)
  apply LoopP.up (G := Nat) (fun k => k ≤ a.length ∧ Up k fun i => a.getD i default = b.getD i default) [0, 1, 12, 13] (fun k => [(13, .i k)]) (fun _ => []) 0 (fun k => a.length - k)
  apply And.intro
  · refine CutE.at 0 ?_
    repeat' (first | exact @id (emp _ = true) | (intro h; first | exact Bool.noConfusion h | (simp only [Qn] at h) | skip) | ((conv => whnf) <;> (first | exact trivial | apply Qa | apply And.intro | apply Qb | apply Qc | apply Qd | apply Qe | apply Qf | apply Qg | apply Qh | apply Qi | exact QA | exact QP | refine QG ?_ | apply Qj | apply Qk | apply Ql | apply Qm | apply Qo | apply Qp | apply Qw | apply Qv | apply Qu | apply Qt | apply Qs | apply Qr | apply Qq | apply Qx | apply wrapS | apply Qy | (with_reducible exact lenNil) | apply Eq.refl)) | ((with_reducible first | apply Y1 | apply Y2 | apply Y3 | show blkEq _ _ _); conv => whnf))
    all_goals try simp only [Int.toNat_natCast, Int.toNat_zero, ge_iff_le, gt_iff_lt, Int.ofNat_le, Int.ofNat_lt, Int.ofNat_inj] at *
    all_goals first
      | omega
      | (dsimp only; omega)
      | assumption
      | exact Up.zero _
      | (show ((8 : Nat) : Int) * _ ≤ _; omega)
      | (show _ * (8 : Nat) ≤ _; omega)
      | (show _ * (16 : Nat) ≤ _; omega)
      | (show _ * (24 : Nat) ≤ _; omega)
      | trace_state
  · intro k ⟨hk, hu⟩
    repeat' (first | exact @id (emp _ = true) | (intro h; first | exact Bool.noConfusion h | (simp only [Qn] at h) | skip) | ((conv => whnf) <;> (first | exact trivial | apply Qa | apply And.intro | apply Qb | apply Qc | apply Qd | apply Qe | apply Qf | apply Qg | apply Qh | apply Qi | exact QA | exact QP | refine QG ?_ | apply Qj | apply Qk | apply Ql | apply Qm | apply Qo | apply Qp | apply Qw | apply Qv | apply Qu | apply Qt | apply Qs | apply Qr | apply Qq | apply Qx | apply wrapS | apply Qy | (with_reducible exact lenNil) | apply Eq.refl)) | ((with_reducible first | apply Y1 | apply Y2 | apply Y3 | show blkEq _ _ _); conv => whnf))
    all_goals try simp only [Int.toNat_natCast, Int.toNat_zero, ge_iff_le, gt_iff_lt, Int.ofNat_le, Int.ofNat_lt, Int.ofNat_inj] at *
    all_goals first
      | omega
      | (dsimp only; omega)
      | assumption
      | exact Up.zero _
      | (show ((8 : Nat) : Int) * _ ≤ _; omega)
      | (show _ * (8 : Nat) ≤ _; omega)
      | (show _ * (16 : Nat) ≤ _; omega)
      | (show _ * (24 : Nat) ≤ _; omega)
      | exact hu.succ (by assumption)
      | exact getD_ne (by omega) (i := k) (by omega) (by assumption)
      | exact eq_of_up (by omega) (k := k) (by omega) hu
      | trace_state
end Go.Eng
