/- A part of the walks, and of the machine that proves them (StE). -/
import Derived.Test.YtgahcoccodhkmaaGreatStC
set_option linter.unusedVariables false
set_option linter.unusedSimpArgs false
namespace Go.Eng
open Go Go.Proofs
def sCode5 : FSpec := spec (List Ins × List Ins) (fun (a, b) => [.c (codeS a), .c (codeS b)]) (fun (a, b) => a.length ≤ 1000000 ∧ b.length ≤ 1000000) fun (a, b) => .b (decide (a = b))
set_option maxHeartbeats 4000000 in
set_option maxRecDepth 100000 in
theorem Code5_ok : Meets Tryz.prog 15 sCode5 := by
  refine meets_plain (gok_nil _) rfl [] (fn := Tryz.f15) rfl rfl rfl (by decide) fun ⟨a, b⟩ ⟨ha, hb⟩ => ?_
  repeat' (first | exact @id (emp _ = true) | (intro h; first | exact Bool.noConfusion h | (simp only [Qn] at h) | skip) | ((conv => whnf) <;> (first | exact trivial | apply Qa | apply And.intro | apply Qb | apply Qc | apply Qd | apply Qe | apply Qf | apply Qg | apply Qh | apply Qi | exact QA | exact QP | refine QG ?_ | apply Qj | apply Qk | apply Ql | apply Qm | apply Qo | apply Qp | apply Qw | apply Qv | apply Qu | apply Qt | apply Qs | apply Qr | apply Qq | apply Qx | apply wrapS | apply Qy | (with_reducible exact lenNil) | apply Eq.refl)) | ((with_reducible first | apply Y1 | apply Y2 | apply Y3 | show blkEq _ _ _); conv => whnf))
  · rename_i h; exact decide_eq_false fun e => h (by rw [e])
  apply LoopP.up (G := Nat) (fun k => k ≤ a.length ∧ Up k fun i => a.getD i default = b.getD i default) [0, 1, 12, 13] (fun k => [(13, .i k)]) (fun _ => []) 0 (fun k => a.length - k)
  apply And.intro
  · refine CutE.at 0 ?_
    repeat' (first | exact @id (emp _ = true) | (intro h; first | exact Bool.noConfusion h | (simp only [Qn] at h) | skip) | ((conv => whnf) <;> (first | exact trivial | apply Qa | apply And.intro | apply Qb | apply Qc | apply Qd | apply Qe | apply Qf | apply Qg | apply Qh | apply Qi | exact QA | exact QP | refine QG ?_ | apply Qj | apply Qk | apply Ql | apply Qm | apply Qo | apply Qp | apply Qw | apply Qv | apply Qu | apply Qt | apply Qs | apply Qr | apply Qq | apply Qx | apply wrapS | apply Qy | (with_reducible exact lenNil) | apply Eq.refl)) | ((with_reducible first | apply Y1 | apply Y2 | apply Y3 | show blkEq _ _ _); conv => whnf))
    all_goals try simp only [Int.toNat_natCast, Int.toNat_zero, ge_iff_le, gt_iff_lt, Int.ofNat_le, Int.ofNat_lt, Int.ofNat_inj] at *
    all_goals first
      | omega
      | (dsimp only; omega)
      | assumption
      | exact Up.zero _
      | (show ((8 : Nat) : Int) * _ ≤ _; omega)
      | (show _ * (8 : Nat) ≤ _; omega)
      | (show _ * (16 : Nat) ≤ _; omega)
      | (show _ * (24 : Nat) ≤ _; omega)
      | trace_state
  · intro k ⟨hk, hu⟩
    have e0 : (k : Int).toNat = k := by omega
    repeat' (first | exact @id (emp _ = true) | (intro h; first | exact Bool.noConfusion h | (simp only [Qn] at h) | skip) | ((conv => whnf) <;> (first | exact trivial | apply Qa | apply And.intro | refine AggP.go 4 rfl (by kernel_rfl) ?_ | apply Qb | apply Qc | apply Qd | apply Qe | apply Qf | apply Qg | apply Qh | apply Qi | exact QA | exact QP | refine QG ?_ | apply Qj | apply Qk | apply Ql | apply Qm | apply Qo | apply Qp | apply Qw | apply Qv | apply Qu | apply Qt | apply Qs | apply Qr | apply Qq | apply Qx | apply wrapS | apply Qy | (with_reducible exact lenNil) | apply Eq.refl)) | ((with_reducible first | apply Y1 | apply Y2 | apply Y3 | show blkEq _ _ _); conv => whnf))
    all_goals try simp only [e0] at *
    all_goals first
      | omega
      | (refine decide_eq_false fun e => ‹¬_› ?_; rw [e]; exact ⟨rfl, rfl, rfl, rfl⟩)
      | exact decide_eq_true (eq_of_upG (by omega) (k := k) (by omega) hu)
      | (refine hu.succ ?_; obtain ⟨q0, q1, q2, q3⟩ := h; exact Prod.ext q0 (Prod.ext q1 (Prod.ext q2 (q3))))
      | trace_state
def sEvs : FSpec := spec (List Ev × List Ev) (fun (a, b) => [.c (evsS a), .c (evsS b)]) (fun (a, b) => a.length ≤ 1000000 ∧ b.length ≤ 1000000) fun (a, b) => .b (decide (a = b))
set_option maxHeartbeats 4000000 in
set_option maxRecDepth 100000 in
theorem Evs_ok : Meets Tryz.prog 14 sEvs := by
  refine meets_plain (gok_nil _) rfl [] (fn := Tryz.f14) rfl rfl rfl (by decide) fun ⟨a, b⟩ ⟨ha, hb⟩ => ?_
  repeat' (first | exact @id (emp _ = true) | (intro h; first | exact Bool.noConfusion h | (simp only [Qn] at h) | skip) | ((conv => whnf) <;> (first | exact trivial | apply Qa | apply And.intro | apply Qb | apply Qc | apply Qd | apply Qe | apply Qf | apply Qg | apply Qh | apply Qi | exact QA | exact QP | refine QG ?_ | apply Qj | apply Qk | apply Ql | apply Qm | apply Qo | apply Qp | apply Qw | apply Qv | apply Qu | apply Qt | apply Qs | apply Qr | apply Qq | apply Qx | apply wrapS | apply Qy | (with_reducible exact lenNil) | apply Eq.refl)) | ((with_reducible first | apply Y1 | apply Y2 | apply Y3 | show blkEq _ _ _); conv => whnf))
  · rename_i h; exact decide_eq_false fun e => h (by rw [e])
  apply LoopP.up (G := Nat) (fun k => k ≤ a.length ∧ Up k fun i => a.getD i default = b.getD i default) [0, 1, 12, 13] (fun k => [(13, .i k)]) (fun _ => []) 0 (fun k => a.length - k)
  apply And.intro
  · refine CutE.at 0 ?_
    repeat' (first | exact @id (emp _ = true) | (intro h; first | exact Bool.noConfusion h | (simp only [Qn] at h) | skip) | ((conv => whnf) <;> (first | exact trivial | apply Qa | apply And.intro | apply Qb | apply Qc | apply Qd | apply Qe | apply Qf | apply Qg | apply Qh | apply Qi | exact QA | exact QP | refine QG ?_ | apply Qj | apply Qk | apply Ql | apply Qm | apply Qo | apply Qp | apply Qw | apply Qv | apply Qu | apply Qt | apply Qs | apply Qr | apply Qq | apply Qx | apply wrapS | apply Qy | (with_reducible exact lenNil) | apply Eq.refl)) | ((with_reducible first | apply Y1 | apply Y2 | apply Y3 | show blkEq _ _ _); conv => whnf))
    all_goals try simp only [Int.toNat_natCast, Int.toNat_zero, ge_iff_le, gt_iff_lt, Int.ofNat_le, Int.ofNat_lt, Int.ofNat_inj] at *
    all_goals first
      | omega
      | (dsimp only; omega)
      | assumption
      | exact Up.zero _
      | (show ((8 : Nat) : Int) * _ ≤ _; omega)
      | (show _ * (8 : Nat) ≤ _; omega)
      | (show _ * (16 : Nat) ≤ _; omega)
      | (show _ * (24 : Nat) ≤ _; omega)
      | trace_state
  · intro k ⟨hk, hu⟩
    have e0 : (k : Int).toNat = k := by omega
    repeat' (first | exact @id (emp _ = true) | (intro h; first | exact Bool.noConfusion h | (simp only [Qn] at h) | skip) | ((conv => whnf) <;> (first | exact trivial | apply Qa | apply And.intro | refine AggP.go 6 rfl (by kernel_rfl) ?_ | apply Qb | apply Qc | apply Qd | apply Qe | apply Qf | apply Qg | apply Qh | apply Qi | exact QA | exact QP | refine QG ?_ | apply Qj | apply Qk | apply Ql | apply Qm | apply Qo | apply Qp | apply Qw | apply Qv | apply Qu | apply Qt | apply Qs | apply Qr | apply Qq | apply Qx | apply wrapS | apply Qy | (with_reducible exact lenNil) | apply Eq.refl)) | ((with_reducible first | apply Y1 | apply Y2 | apply Y3 | show blkEq _ _ _); conv => whnf))
    all_goals try simp only [e0] at *
    all_goals first
      | omega
      | (refine decide_eq_false fun e => ‹¬_› ?_; rw [e]; exact ⟨rfl, rfl, rfl, rfl, rfl, rfl⟩)
      | exact decide_eq_true (eq_of_upG (by omega) (k := k) (by omega) hu)
      | (refine hu.succ ?_; obtain ⟨q0, q1, q2, q3, q4, q5⟩ := h; exact Prod.ext q0 (Prod.ext q1 (Prod.ext q2 (Prod.ext q3 (Prod.ext q4 (q5))))))
      | trace_state
theorem codeR_iff {c : List Ins} : codeR c = true ↔ c.length ≤ 1000 ∧ ∀ i, i < c.length → insR c.length (c.getD i default) = true := by
  simp only [codeR, Bool.and_eq_true, decide_eq_true_eq, List.all_eq_true]
  constructor
  · rintro ⟨h1, h2⟩
    refine ⟨h1, fun i hi => ?_⟩
    rw [List.getD_eq_getElem?_getD, List.getElem?_eq_getElem hi]
    exact h2 _ (List.getElem_mem hi)
  · rintro ⟨h1, h2⟩
    refine ⟨h1, fun t ht => ?_⟩
    obtain ⟨i, hi, rfl⟩ := List.getElem_of_mem ht
    have := h2 i hi
    rwa [List.getD_eq_getElem?_getD, List.getElem?_eq_getElem hi] at this
theorem codeR_no {c : List Ins} (h : ¬ (c.length ≤ 1000 ∧ ∀ i, i < c.length → insR c.length (c.getD i default) = true)) : codeR c = false := by
  cases e : codeR c with
  | false => rfl
  | true => exact absurd (codeR_iff.1 e) h
def R52 : List (Nat × FSpec) := [(45, sMay5)]
theorem R52_ok : GOK Tryz.prog (tab R52) := gok_cons may5_ok (gok_nil _)
set_option maxHeartbeats 4000000 in
set_option maxRecDepth 100000 in
theorem rcodeR_ok : Meets Tryz.prog 18 sCodeR := by
  refine meets_plain R52_ok rfl [] (fn := Tryz.f18) rfl rfl rfl (by decide) fun c _ => ?_
  repeat' (first | exact @id (emp _ = true) | (intro h; first | exact Bool.noConfusion h | (simp only [Qn] at h) | skip) | ((conv => whnf) <;> (first | exact trivial | apply Qa | apply And.intro | apply Qb | apply Qc | apply Qd | apply Qe | apply Qf | apply Qg | apply Qh | apply Qi | exact QA | exact QP | refine QG ?_ | apply Qj | apply Qk | apply Ql | apply Qm | apply Qo | apply Qp | apply Qw | apply Qv | apply Qu | apply Qt | apply Qs | apply Qr | apply Qq | apply Qx | apply wrapS | apply Qy | (with_reducible exact lenNil) | apply Eq.refl)) | ((with_reducible first | apply Y1 | apply Y2 | apply Y3 | show blkEq _ _ _); conv => whnf))
  · exact codeR_long (by omega)
  apply LoopP.up (G := Nat) (fun k => k ≤ c.length ∧ Up k fun i => insR c.length (c.getD i default) = true) [0, 8, 9, 10] (fun k => [(10, .i k)]) (fun _ => []) 0 (fun k => c.length - k)
  apply And.intro
  · refine CutE.at 0 ?_
    repeat' (first | exact @id (emp _ = true) | (intro h; first | exact Bool.noConfusion h | (simp only [Qn] at h) | skip) | ((conv => whnf) <;> (first | exact trivial | apply Qa | apply And.intro | apply Qb | apply Qc | apply Qd | apply Qe | apply Qf | apply Qg | apply Qh | apply Qi | exact QA | exact QP | refine QG ?_ | apply Qj | apply Qk | apply Ql | apply Qm | apply Qo | apply Qp | apply Qw | apply Qv | apply Qu | apply Qt | apply Qs | apply Qr | apply Qq | apply Qx | apply wrapS | apply Qy | (with_reducible exact lenNil) | apply Eq.refl)) | ((with_reducible first | apply Y1 | apply Y2 | apply Y3 | show blkEq _ _ _); conv => whnf))
    all_goals try simp only [Int.toNat_natCast, Int.toNat_zero, ge_iff_le, gt_iff_lt, Int.ofNat_le, Int.ofNat_lt, Int.ofNat_inj] at *
    all_goals first
      | omega
      | (dsimp only; omega)
      | assumption
      | exact Up.zero _
      | (show ((8 : Nat) : Int) * _ ≤ _; omega)
      | (show _ * (8 : Nat) ≤ _; omega)
      | (show _ * (16 : Nat) ≤ _; omega)
      | (show _ * (24 : Nat) ≤ _; omega)
      | trace_state
  · intro k ⟨hk, hu⟩
    repeat' (first | exact @id (emp _ = true) | (intro h; first | exact Bool.noConfusion h | (simp only [Qn] at h) | skip) | ((conv => whnf) <;> (first | exact trivial | apply Qa | apply And.intro | refine CutE.at (A := Nat) (k + 1) ?_ | refine CutE.at (c.getD k default, (c.length : Int)) ?_ | apply Qb | apply Qc | apply Qd | apply Qe | apply Qf | apply Qg | apply Qh | apply Qi | exact QA | exact QP | refine QG ?_ | apply Qj | apply Qk | apply Ql | apply Qm | apply Qo | apply Qp | apply Qw | apply Qv | apply Qu | apply Qt | apply Qs | apply Qr | apply Qq | apply Qx | apply wrapS | apply Qy | (with_reducible exact lenNil) | apply Eq.refl)) | ((with_reducible first | apply Y1 | apply Y2 | apply Y3 | show blkEq _ _ _); conv => whnf))
    all_goals try simp only [Int.toNat_natCast] at *
    all_goals first
      | omega
      | exact codeR_no fun hh => Bool.noConfusion ((hh.2 k (by omega)).symm.trans (by assumption))
      | exact codeR_iff.2 ⟨by omega, fun j hj => hu.get j (by omega)⟩
      | exact hu.succ (by assumption)
      | trace_state
def E1 : List (Nat × FSpec) := (18, sCodeR) :: (35, sTsoRight) :: (36, sThR) :: (37, sCodeR) :: (38, sTsoRight) :: (39, sThCont) :: D2'
theorem E1_ok : GOK Tryz.prog (tab E1) := gok_cons rcodeR_ok (gok_cons rtsoRight_ok (gok_cons rthR_ok (gok_cons codeR_ok (gok_cons tsoRight_ok (gok_cons ThCont_ok D2'_ok)))))
def sWorldR : FSpec := spec (Bool × Wd) (fun (e, w) => [.agg (wdC e w)]) (fun (_, w) => SmallW w) fun (_, w) => .b (worldR w)
set_option maxHeartbeats 4000000 in
set_option maxRecDepth 100000 in
theorem worldR_ok : Meets Tryz.prog 12 sWorldR := by
  refine meets_plain E1_ok rfl [] (fn := Tryz.f12) rfl rfl rfl (by decide) fun ⟨e, w⟩ hs => ?_
  have hs : SmallW w := hs
  have hn : w.th.length ≤ 1000000 := hs.n
  have hno1 : codeR w.code = false → worldR w = false := fun h => worldR_no fun hh => Bool.noConfusion (hh.1.symm.trans h)
  have hno2 : tsoR w.ws w.ts w.d w.l = false → worldR w = false := fun h => worldR_no fun hh => Bool.noConfusion (hh.2.1.symm.trans h)
  have hno3 : ¬ (w.th.length : Int) = w.l.length → worldR w = false := fun h => worldR_no fun hh => h (by rw [hh.2.2.1])
  repeat' (first | exact @id (emp _ = true) | (intro h; first | exact Bool.noConfusion h | (simp only [Qn] at h) | skip) | ((conv => whnf) <;> (first | exact trivial | apply Qa | apply And.intro | refine CutE.at (e, w.th, w) ?_ | refine CutE.at (w.ws, w.ts, w.d, w.l) ?_ | apply Qb | apply Qc | apply Qd | apply Qe | apply Qf | apply Qg | apply Qh | apply Qi | exact QA | exact QP | refine QG ?_ | apply Qj | apply Qk | apply Ql | apply Qm | apply Qo | apply Qp | apply Qw | apply Qv | apply Qu | apply Qt | apply Qs | apply Qr | apply Qq | apply Qx | apply wrapS | apply Qy | (with_reducible exact lenNil) | apply Eq.refl)) | ((with_reducible first | apply Y1 | apply Y2 | apply Y3 | show blkEq _ _ _); conv => whnf))
  all_goals first
    | exact hno1 (by assumption)
    | exact hno2 (by assumption)
    | exact hno3 (by assumption)
    | exact hs.l.1
    | exact hs.l.2 _
    | exact hs.n
    | exact (hs.th _).1
    | exact (hs.th _).2
    | exact worldR_any (by assumption) (by assumption) (by omega)
    | trace_state
def E2 : List (Nat × FSpec) := (12, sWorldR) :: E1
theorem E2_ok : GOK Tryz.prog (tab E2) := gok_cons worldR_ok E1_ok
set_option maxHeartbeats 4000000 in
set_option maxRecDepth 100000 in
theorem rworldR_ok : Meets Tryz.prog 11 sWorldR := by
  refine meets_plain E1_ok rfl [] (fn := Tryz.f11) rfl rfl rfl (by decide) fun ⟨e, w⟩ hs => ?_
  have hs : SmallW w := hs
  have hn : w.th.length ≤ 1000000 := hs.n
  have hno1 : codeR w.code = false → worldR w = false := fun h => worldR_no fun hh => Bool.noConfusion (hh.1.symm.trans h)
  have hno2 : tsoR w.ws w.ts w.d w.l = false → worldR w = false := fun h => worldR_no fun hh => Bool.noConfusion (hh.2.1.symm.trans h)
  have hno3 : ¬ (w.th.length : Int) = w.l.length → worldR w = false := fun h => worldR_no fun hh => h (by rw [hh.2.2.1])
  repeat' (first | exact @id (emp _ = true) | (intro h; first | exact Bool.noConfusion h | (simp only [Qn] at h) | skip) | ((conv => whnf) <;> (first | exact trivial | apply Qa | apply And.intro | refine CutE.at (w.ws, w.ts, w.d, w.l) ?_ | apply Qb | apply Qc | apply Qd | apply Qe | apply Qf | apply Qg | apply Qh | apply Qi | exact QA | exact QP | refine QG ?_ | apply Qj | apply Qk | apply Ql | apply Qm | apply Qo | apply Qp | apply Qw | apply Qv | apply Qu | apply Qt | apply Qs | apply Qr | apply Qq | apply Qx | apply wrapS | apply Qy | (with_reducible exact lenNil) | apply Eq.refl)) | ((with_reducible first | apply Y1 | apply Y2 | apply Y3 | show blkEq _ _ _); conv => whnf))
  all_goals try first
    | exact hno1 (by assumption)
    | exact hno2 (by assumption)
    | exact hno3 (by assumption)
    | exact hs.l.1
    | exact hs.l.2 _
  have h1 : codeR w.code = true := by assumption
  have h2 : tsoR w.ws w.ts w.d w.l = true := by assumption
  have h3 : (w.th.length : Int) = w.l.length := by assumption
  apply LoopP.up (G := Nat) (fun k => k ≤ w.th.length ∧ Up k fun i => okTh w.th.length (w.th.getD i default) = true) [1, 26, 27, 28] (fun k => [(28, .i k)]) (fun _ => []) 1 (fun k => w.th.length - k)
  apply And.intro
  · refine CutE.at 0 ?_
    repeat' (first | exact @id (emp _ = true) | (intro h; first | exact Bool.noConfusion h | (simp only [Qn] at h) | skip) | ((conv => whnf) <;> (first | exact trivial | apply Qa | apply And.intro | apply Qb | apply Qc | apply Qd | apply Qe | apply Qf | apply Qg | apply Qh | apply Qi | exact QA | exact QP | refine QG ?_ | apply Qj | apply Qk | apply Ql | apply Qm | apply Qo | apply Qp | apply Qw | apply Qv | apply Qu | apply Qt | apply Qs | apply Qr | apply Qq | apply Qx | apply wrapS | apply Qy | (with_reducible exact lenNil) | apply Eq.refl)) | ((with_reducible first | apply Y1 | apply Y2 | apply Y3 | show blkEq _ _ _); conv => whnf))
    all_goals try simp only [Int.toNat_natCast, Int.toNat_zero, ge_iff_le, gt_iff_lt, Int.ofNat_le, Int.ofNat_lt, Int.ofNat_inj] at *
    all_goals first
      | omega
      | (dsimp only; omega)
      | assumption
      | exact Up.zero _
      | (show ((8 : Nat) : Int) * _ ≤ _; omega)
      | (show _ * (8 : Nat) ≤ _; omega)
      | (show _ * (16 : Nat) ≤ _; omega)
      | (show _ * (24 : Nat) ≤ _; omega)
      | trace_state
  · intro k ⟨hk, hu⟩
    have hF : k < w.th.length → badT w.th.length (w.th.getD k default) = true → worldR w = false := fun hk h => worldR_no fun hh => by
      have := hh.2.2.2 k hk
      unfold badT at h
      rw [this] at h
      cases h
    have hT : badT w.th.length (w.th.getD k default) = false → okTh w.th.length (w.th.getD k default) = true := fun h => by
      unfold badT at h
      simpa using h
    have hb1 : thR (w.th.getD k default) = false → badT w.th.length (w.th.getD k default) = true := fun h => by unfold badT okTh; rw [h]; rfl
    have hb2 : thR (w.th.getD k default) = true → ¬ ((w.th.getD k default).lf.length : Int) > 0 → badT w.th.length (w.th.getD k default) = false := fun h h' => by unfold badT okTh; rw [h, decide_eq_true (by omega)]; rfl
    have hb3 := @badT_ne w.th.length (w.th.getD k default)
    repeat' (first | exact @id (emp _ = true) | (intro h; first | exact Bool.noConfusion h | (simp only [Qn] at h) | skip) | ((conv => whnf) <;> (first | exact trivial | apply Qa | apply And.intro | refine CutE.at (A := Nat) (k + 1) ?_ | refine CutE.at (w.th.getD k default) ?_ | apply Qb | apply Qc | apply Qd | apply Qe | apply Qf | apply Qg | apply Qh | apply Qi | exact QA | exact QP | refine QG ?_ | apply Qj | apply Qk | apply Ql | apply Qm | apply Qo | apply Qp | apply Qw | apply Qv | apply Qu | apply Qt | apply Qs | apply Qr | apply Qq | apply Qx | apply wrapS | apply Qy | (with_reducible exact lenNil) | apply Eq.refl)) | ((with_reducible first | apply Y1 | apply Y2 | apply Y3 | show blkEq _ _ _); conv => whnf))
    all_goals try simp only [Int.toNat_natCast] at *
    all_goals first
      | omega
      | exact (hs.th _).1
      | exact (hs.th _).2
      | exact hF (by omega) (hb1 (by assumption))
      | exact hu.succ (hT (hb2 (by assumption) (by assumption)))
      | exact worldR_iff.2 ⟨h1, h2, by omega, fun j hj => hu.get j (by omega)⟩
      | (refine hF (by omega) ?_; rw [hb3 (by assumption) (by assumption)]; first | assumption | (rw [bne_iff_ne]; assumption))
      | (refine hu.succ (hT ?_); rw [hb3 (by assumption) (by assumption)]; first | assumption | (rw [bne_eq_false_iff_eq]; assumption))
      | trace_state
def sameW (a b : Wd) : Bool := decide (a = b)
def E3 : List (Nat × FSpec) := [(13, sThSame), (15, sCode5), (46, sTSame), (14, sEvs)]
theorem E3_ok : GOK Tryz.prog (tab E3) := gok_cons thSame_ok (gok_cons Code5_ok (gok_cons tsame_ok (gok_cons Evs_ok (gok_nil _))))
structure SmallY (w : Wd) : Prop where
  s : SmallW w
  c : w.code.length ≤ 1000000
  e : w.ev.length ≤ 1000000
  m : w.ws.length ≤ 1000000 ∧ w.ts.length ≤ 1000000
def sSameW : FSpec := spec (Bool × Wd × Bool × Wd) (fun (e, a, e', b) => [.agg (wdC e a), .agg (wdC e' b)]) (fun (_, a, _, b) => SmallY a ∧ SmallY b) fun (_, a, _, b) => .b (sameW a b)
set_option maxHeartbeats 4000000 in
set_option maxRecDepth 100000 in
theorem sameW_ok : Meets Tryz.prog 20 sSameW := by
  refine meets_plain E3_ok rfl [] (fn := Tryz.f20) rfl rfl rfl (by decide) fun ⟨e, a, e', b⟩ ⟨ha, hb⟩ => ?_
  repeat' (first | exact @id (emp _ = true) | (intro h; first | exact Bool.noConfusion h | (simp only [Qn] at h) | skip) | ((conv => whnf) <;> (first | exact trivial | apply Qa | apply And.intro | apply Qb | apply Qc | apply Qd | apply Qe | apply Qf | apply Qg | apply Qh | apply Qi | exact QA | exact QP | refine QG ?_ | apply Qj | apply Qk | apply Ql | apply Qm | apply Qo | apply Qp | apply Qw | apply Qv | apply Qu | apply Qt | apply Qs | apply Qr | apply Qq | apply Qx | apply wrapS | apply Qy | (with_reducible exact lenNil) | apply Eq.refl)) | ((with_reducible first | apply Y1 | apply Y2 | apply Y3 | show blkEq _ _ _); conv => whnf))
  · exact decide_eq_false fun h => ‹¬_› (by rw [h])
  have hn : a.th.length ≤ 1000000 := ha.s.n
  have hF : ∀ k, ¬ a.th.getD k default = b.th.getD k default → sameW a b = false := fun k h => decide_eq_false fun e => h (by rw [e])
  have hF1 : decide (a.code = b.code) = false → sameW a b = false := fun h => decide_eq_false fun e => of_decide_eq_false h (by rw [e])
  have hF2 : tsoEq a.ws a.ts a.d a.l b.ws b.ts b.d b.l = false → sameW a b = false := fun h => decide_eq_false fun e => of_decide_eq_false h (by rw [e]; exact ⟨rfl, rfl, rfl, rfl⟩)
  have hF3 : decide (a.ev = b.ev) = false → sameW a b = false := fun h => decide_eq_false fun e => of_decide_eq_false h (by rw [e])
  apply LoopP.up (G := Nat) (fun k => k ≤ a.th.length ∧ Up k fun i => a.th.getD i default = b.th.getD i default) [2, 3, 15, 16] (fun k => [(16, .i k)]) (fun _ => []) 2 (fun k => a.th.length - k)
  apply And.intro
  · refine CutE.at 0 ?_
    repeat' (first | exact @id (emp _ = true) | (intro h; first | exact Bool.noConfusion h | (simp only [Qn] at h) | skip) | ((conv => whnf) <;> (first | exact trivial | apply Qa | apply And.intro | apply Qb | apply Qc | apply Qd | apply Qe | apply Qf | apply Qg | apply Qh | apply Qi | exact QA | exact QP | refine QG ?_ | apply Qj | apply Qk | apply Ql | apply Qm | apply Qo | apply Qp | apply Qw | apply Qv | apply Qu | apply Qt | apply Qs | apply Qr | apply Qq | apply Qx | apply wrapS | apply Qy | (with_reducible exact lenNil) | apply Eq.refl)) | ((with_reducible first | apply Y1 | apply Y2 | apply Y3 | show blkEq _ _ _); conv => whnf))
    all_goals try simp only [Int.toNat_natCast, Int.toNat_zero, ge_iff_le, gt_iff_lt, Int.ofNat_le, Int.ofNat_lt, Int.ofNat_inj] at *
    all_goals first
      | omega
      | (dsimp only; omega)
      | assumption
      | exact Up.zero _
      | (show ((8 : Nat) : Int) * _ ≤ _; omega)
      | (show _ * (8 : Nat) ≤ _; omega)
      | (show _ * (16 : Nat) ≤ _; omega)
      | (show _ * (24 : Nat) ≤ _; omega)
      | trace_state
  · intro k ⟨hk, hu⟩
    have hY : k = a.th.length → a.code = b.code → tsoEq a.ws a.ts a.d a.l b.ws b.ts b.d b.l = true → decide (a.ev = b.ev) = sameW a b := fun h h1 h2 => by
      obtain ⟨q1, q2, q3, q4⟩ := of_decide_eq_true h2
      have q5 : a.th = b.th := eq_of_upG (by omega) (k := k) (by omega) hu
      obtain ⟨_, _, _, _, _, _, _⟩ := a
      obtain ⟨_, _, _, _, _, _, _⟩ := b
      simp only at h1 q1 q2 q3 q4 q5
      subst h1 q1 q2 q3 q4 q5
      unfold sameW
      congr 1
      apply propext
      simp
    repeat' (first | exact @id (emp _ = true) | (intro h; first | exact Bool.noConfusion h | (simp only [Qn] at h) | skip) | ((conv => whnf) <;> (first | exact trivial | apply Qa | apply And.intro | refine CutE.at (A := Nat) (k + 1) ?_ | refine CutE.at (a.th.getD k default, b.th.getD k default) ?_ | refine CutE.at (a.ws, a.ts, a.d, a.l, b.ws, b.ts, b.d, b.l) ?_ | refine CutE.at (a.code, b.code) ?_ | refine CutE.at (a.ev, b.ev) ?_ | apply Qb | apply Qc | apply Qd | apply Qe | apply Qf | apply Qg | apply Qh | apply Qi | exact QA | exact QP | refine QG ?_ | apply Qj | apply Qk | apply Ql | apply Qm | apply Qo | apply Qp | apply Qw | apply Qv | apply Qu | apply Qt | apply Qs | apply Qr | apply Qq | apply Qx | apply wrapS | apply Qy | (with_reducible exact lenNil) | apply Eq.refl)) | ((with_reducible first | apply Y1 | apply Y2 | apply Y3 | show blkEq _ _ _); conv => whnf))
    all_goals try simp only [Int.toNat_natCast] at *
    all_goals first
      | omega
      | exact (ha.s.th _).1
      | exact (ha.s.th _).2
      | exact (hb.s.th _).1
      | exact (hb.s.th _).2
      | exact ha.c
      | exact hb.c
      | exact ha.e
      | exact hb.e
      | exact ha.m.1
      | exact ha.m.2
      | exact ha.s.l.1
      | exact ha.s.l.2 _
      | exact hb.s.l.1
      | exact hb.s.l.2 _
      | exact hF1 (by assumption)
      | exact hF1 (decide_eq_false (by assumption))
      | exact (hY (by omega) (by assumption) (by assumption)).symm
      | exact hF2 (by assumption)
      | exact hF k (of_decide_eq_false (by assumption))
      | exact hu.succ (of_decide_eq_true (by assumption))
      | trace_state
end Go.Eng
namespace Go.Eng
open Go Go.Proofs
def withT (l : List Th) (i : Int) (t : Th) : List Th := if 0 ≤ i then l.set i.toNat t else l
theorem withT_len (l : List Th) (a : Int) (v : Th) : (withT l a v).length = l.length := by unfold withT; split <;> simp
theorem withT_at {l : List Th} {a : Int} {v : Th} {k : Nat} (hk : k < l.length) (h : (k : Int) = a) : (withT l a v).getD k default = v := by
  subst h
  simp [withT, List.getD_eq_getElem?_getD, hk]
theorem withT_ne {l : List Th} {a : Int} {v : Th} {k : Nat} (h : ¬ (k : Int) = a) : (withT l a v).getD k default = l.getD k default := by
  unfold withT
  split
  · simp only [List.getD_eq_getElem?_getD]
    rw [List.getElem?_set_ne (by omega)]
  · rfl
def sWithT : FSpec := spec (List Th × Int × Th) (fun (l, a, v) => [.c (thsS true l), .i a, .agg (thE true v)]) (fun (l, _, _) => l.length ≤ 1000000) fun (l, a, v) => .c (thsS true (withT l a v))
set_option maxHeartbeats 4000000 in
set_option maxRecDepth 100000 in
theorem withT_ok : Meets Tryz.prog 104 sWithT := by
  refine meets_plain (gok_nil _) rfl [] (fn := Tryz.f104) rfl rfl rfl (by decide) fun ⟨l, a, v⟩ hl => ?_
  have hl : l.length ≤ 1000000 := hl
  repeat' (first | exact @id (emp _ = true) | (intro h; first | exact Bool.noConfusion h | (simp only [Qn] at h) | skip) | ((conv => whnf) <;> (first | exact trivial | apply Qa | apply And.intro | apply Qb | apply Qc | apply Qd | apply Qe | apply Qf | apply Qg | apply Qh | apply Qi | exact QA | exact QP | refine QG ?_ | apply Qj | apply Qk | apply Ql | apply Qm | apply Qo | apply Qp | apply Qw | apply Qv | apply Qu | apply Qt | apply Qs | apply Qr | apply Qq | apply Qx | apply wrapS | apply Qy | (with_reducible exact lenNil) | apply Eq.refl)) | ((with_reducible first | apply Y1 | apply Y2 | apply Y3 | show blkEq _ _ _); conv => whnf))
  apply LoopP.up (G := Nat) (fun k => k ≤ l.length) [1, 5, 7, 11, 12, 13] (fun k => [(13, .i k), (7, .c (.osl 1))]) (fun k => [(1, .slc 44 13 k (slG (thE true) ((withT l a v).take k)))]) 2 (fun k => l.length - k)
  apply And.intro
  · refine CutE.at 0 ?_
    repeat' (first | exact @id (emp _ = true) | (intro h; first | exact Bool.noConfusion h | (simp only [Qn] at h) | skip) | ((conv => whnf) <;> (first | exact trivial | apply Qa | apply And.intro | apply Qb | apply Qc | apply Qd | apply Qe | apply Qf | apply Qg | apply Qh | apply Qi | exact QA | exact QP | refine QG ?_ | apply Qj | apply Qk | apply Ql | apply Qm | apply Qo | apply Qp | apply Qw | apply Qv | apply Qu | apply Qt | apply Qs | apply Qr | apply Qq | apply Qx | apply wrapS | apply Qy | (with_reducible exact lenNil) | apply Eq.refl)) | ((with_reducible first | apply Y1 | apply Y2 | apply Y3 | show blkEq _ _ _); conv => whnf))
    all_goals try simp only [Int.toNat_natCast, Int.toNat_zero, ge_iff_le, gt_iff_lt, Int.ofNat_le, Int.ofNat_lt, Int.ofNat_inj] at *
    all_goals first
      | omega
      | (dsimp only; omega)
      | assumption
      | exact Up.zero _
      | (show ((8 : Nat) : Int) * _ ≤ _; omega)
      | (show _ * (8 : Nat) ≤ _; omega)
      | (show _ * (16 : Nat) ≤ _; omega)
      | (show _ * (24 : Nat) ≤ _; omega)
      | trace_state
  · intro k hk
    have e0 : (k : Int).toNat = k := by omega
    repeat' (first | exact @id (emp _ = true) | (intro h; first | exact Bool.noConfusion h | (simp only [Qn] at h) | skip) | ((conv => whnf) <;> (first | exact trivial | apply Qa | apply And.intro | refine CutE.at (A := Nat) (k + 1) ?_ | apply Qb | apply Qc | apply Qd | apply Qe | apply Qf | apply Qg | apply Qh | apply Qi | exact QA | exact QP | refine QG ?_ | apply Qj | apply Qk | apply Ql | apply Qm | apply Qo | apply Qp | apply Qw | apply Qv | apply Qu | apply Qt | apply Qs | apply Qr | apply Qq | apply Qx | apply wrapS | apply Qy | (with_reducible exact lenNil) | apply Eq.refl)) | ((with_reducible first | apply Y1 | apply Y2 | apply Y3 | show blkEq _ _ _); conv => whnf))
    all_goals have hlen := withT_len l a v
    all_goals try simp only [e0] at *
    all_goals first
      | omega
      | (show (k + 1) * 136 ≤ _; omega)
      | (show l.length - (k + 1) < l.length - k; omega)
      | (refine slG_take1 (q := 13) (by omega) rfl (by assumption) (by assumption) ?_
         rw [withT_at (by omega) (by assumption)] <;> rfl)
      | (refine slG_take1 (q := 13) (by omega) rfl (by assumption) (by assumption) ?_
         rw [withT_ne (by assumption)] <;> rfl)
      | exact slG_all (by omega)
      | trace_state
def putW (w : Wd) (i : Int) (t : Th) : Wd := ⟨w.code, w.ws, w.ts, w.d, w.l, withT w.th i t, w.ev⟩
def faultT (t : Th) (e : Int) : Th := ⟨t.pc, t.r0, t.r1, t.r2, t.r3, t.r4, t.r5, t.r6, t.r7, t.fs, 2, e, t.lf⟩
abbrev thOf (w : Wd) (i : Int) : Th := w.th.getD i.toNat default
def hasW (w : Wd) (i : Int) : Bool := decide (0 ≤ i ∧ i < w.th.length)
theorem CutE.goWdI {p : Wd × Int → Prop} {code : List Ins} {ws ts : List Int} {d : Int} {l : List (List Put)} {th : List Th} {ev : List Ev} {i : Int} (h : p (⟨code, ws, ts, d, l, th, ev⟩, i)) : CutE (Wd × Int) p := ⟨⟨_, h⟩⟩
theorem CutE.goThs {p : List Th × Int × Th → Prop} {th : List Th} {i pc r0 r1 r2 r3 r4 r5 r6 r7 : Int} {fs : List FrT} {st fa : Int} {lf : List Int}
  (h : p (th, i, ⟨pc, r0, r1, r2, r3, r4, r5, r6, r7, fs, st, fa, lf⟩)) : CutE (List Th × Int × Th) p := ⟨⟨_, h⟩⟩
def rWd (w : Wd) : Sv := .agg (wdC true w)
def sHas8 : FSpec := spec (Wd × Int) (fun (w, i) => [.s (rWd w), .i i]) (fun _ => True) fun (w, i) => .b (hasW w i)
set_option maxHeartbeats 4000000 in
set_option maxRecDepth 100000 in
theorem has8_ok : Meets Tryz.prog 24 sHas8 := by
  refine meets_plain (gok_nil _) rfl [] (fn := Tryz.f24) rfl rfl rfl (by decide) fun ⟨w, i⟩ _ => ?_
  repeat' (first | exact @id (emp _ = true) | (intro h; first | exact Bool.noConfusion h | (simp only [Qn] at h) | skip) | ((conv => whnf) <;> (first | exact trivial | apply Qa | apply And.intro | apply Qb | apply Qc | apply Qd | apply Qe | apply Qf | apply Qg | apply Qh | apply Qi | exact QA | exact QP | refine QG ?_ | apply Qj | apply Qk | apply Ql | apply Qm | apply Qo | apply Qp | apply Qw | apply Qv | apply Qu | apply Qt | apply Qs | apply Qr | apply Qq | apply Qx | apply wrapS | apply Qy | (with_reducible exact lenNil) | apply Eq.refl)) | ((with_reducible first | apply Y1 | apply Y2 | apply Y3 | show blkEq _ _ _); conv => whnf))
  all_goals first
    | (show hasW w i = _; simp only [hasW]; (first | (apply decide_eq_false; omega) | (apply decide_eq_true; omega) | (congr 1; apply propext; omega)))
    | trace_state
def G1 : List (Nat × FSpec) := [(104, sWithT), (24, sHas8)]
theorem G1_ok : GOK Tryz.prog (tab G1) := gok_cons withT_ok (gok_cons has8_ok (gok_nil _))
def sPutW : FSpec := spec (Wd × Int × Th) (fun (w, i, t) => [.s (rWd w), .i i, .agg (thE true t)]) (fun (w, _, _) => w.th.length ≤ 1000000) fun (w, i, t) => .s (rWd (putW w i t))
set_option maxHeartbeats 4000000 in
set_option maxRecDepth 100000 in
theorem putW_ok : Meets Tryz.prog 57 sPutW := by
  refine meets_plain G1_ok rfl [] (fn := Tryz.f57) rfl rfl rfl (by decide) fun ⟨w, i, t⟩ hl => ?_
  have hl : w.th.length ≤ 1000000 := hl
  repeat' (first | exact @id (emp _ = true) | (intro h; first | exact Bool.noConfusion h | (simp only [Qn] at h) | skip) | ((conv => whnf) <;> (first | exact trivial | apply Qa | apply And.intro | apply CutE.goThs | apply Qb | apply Qc | apply Qd | apply Qe | apply Qf | apply Qg | apply Qh | apply Qi | exact QA | exact QP | refine QG ?_ | apply Qj | apply Qk | apply Ql | apply Qm | apply Qo | apply Qp | apply Qw | apply Qv | apply Qu | apply Qt | apply Qs | apply Qr | apply Qq | apply Qx | apply wrapS | apply Qy | (with_reducible exact lenNil) | apply Eq.refl)) | ((with_reducible first | apply Y1 | apply Y2 | apply Y3 | show blkEq _ _ _); conv => whnf))
  all_goals first | exact hl | assumption | trace_state
def G2 : List (Nat × FSpec) := (57, sPutW) :: G1
theorem G2_ok : GOK Tryz.prog (tab G2) := gok_cons putW_ok G1_ok
def sFaultW : FSpec := spec (Wd × Int × Int) (fun (w, i, e) => [.s (rWd w), .i i, .i e]) (fun (w, i, _) => w.th.length ≤ 1000000 ∧ hasW w i = true) fun (w, i, e) => .s (rWd (putW w i (faultT (thOf w i) e)))
set_option maxHeartbeats 4000000 in
set_option maxRecDepth 100000 in
theorem faultW_ok : Meets Tryz.prog 56 sFaultW := by
  refine meets_plain G2_ok rfl [] (fn := Tryz.f56) rfl rfl rfl (by decide) fun ⟨w, i, e⟩ ⟨hl, hi⟩ => ?_
  have hi : 0 ≤ i ∧ i < w.th.length := of_decide_eq_true hi
  repeat' (first | exact @id (emp _ = true) | (intro h; first | exact Bool.noConfusion h | (simp only [Qn] at h) | skip) | ((conv => whnf) <;> (first | exact trivial | apply Qa | apply And.intro | refine CutE.at (w, i, faultT (thOf w i) e) ?_ | apply Qb | apply Qc | apply Qd | apply Qe | apply Qf | apply Qg | apply Qh | apply Qi | exact QA | exact QP | refine QG ?_ | apply Qj | apply Qk | apply Ql | apply Qm | apply Qo | apply Qp | apply Qw | apply Qv | apply Qu | apply Qt | apply Qs | apply Qr | apply Qq | apply Qx | apply wrapS | apply Qy | (with_reducible exact lenNil) | apply Eq.refl)) | ((with_reducible first | apply Y1 | apply Y2 | apply Y3 | show blkEq _ _ _); conv => whnf))
  all_goals first | exact hl | exact hi.1 | exact hi.2 | assumption | omega | trace_state
end Go.Eng
