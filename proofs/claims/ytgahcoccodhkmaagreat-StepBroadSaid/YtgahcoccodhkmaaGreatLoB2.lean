/- A part of the walks, and of the machine that proves them (LoB2). -/
import Derived.Test.YtgahcoccodhkmaaGreatLoA
set_option linter.unusedVariables false
set_option linter.unusedSimpArgs false
namespace Go.Eng
open Go Go.Proofs
/-- May an instruction be, with so many registers and such a target? -/
def mayH (n g a b c : Int) : Bool := ((List.range n.toNat).all fun k => inF ([a, b, c].getD k 0) 0 7) && (decide (g = -1) || inF ([a, b, c].getD g.toNat 0) 0 1000)
theorem mayH_no {n g a b c : Int} {k : Nat} (hk : (k : Int) < n) (h : inF ([a, b, c].getD k 0) 0 7 = false) : mayH n g a b c = false := by
  have : ((List.range n.toNat).all fun k => inF ([a, b, c].getD k 0) 0 7) = false := by
    rw [List.all_eq_false]
    exact ⟨k, List.mem_range.2 (by omega), by simpa using h⟩
  rw [mayH, this]; rfl
theorem mayH_yes {n g a b c : Int} {k : Nat} (hk : ¬ (k : Int) < n) (h : Up k fun i => inF ([a, b, c].getD i 0) 0 7 = true) : mayH n g a b c = (decide (g = -1) || inF ([a, b, c].getD g.toNat 0) 0 1000) := by
  have : ((List.range n.toNat).all fun k => inF ([a, b, c].getD k 0) 0 7) = true := by
    rw [List.all_eq_true]
    intro i hi
    have := List.mem_range.1 hi
    exact h.get i (by omega)
  rw [mayH, this]; rfl
theorem gd1 {a b c : Int} {k : Nat} (h : (k : Int) < 1) : [a].getD k 0 = [a, b, c].getD k 0 := by
  obtain rfl : k = 0 := by omega
  rfl
theorem gd2 {a b c : Int} {k : Nat} (h : (k : Int) < 2) : [a, b].getD k 0 = [a, b, c].getD k 0 := by
  have : k = 0 ∨ k = 1 := by omega
  rcases this with rfl | rfl <;> rfl
def sMayH : FSpec := spec (Int × Int × Int × Int × Int × Int) (fun (n, g, op, a, b, c) => [.agg [.i n, .i g, .any], .agg [.i op, .i a, .i b, .i c]]) (fun (n, g, _) => 0 ≤ n ∧ n ≤ 3 ∧ -1 ≤ g ∧ g < 3) fun (n, g, op, a, b, c) => .b (mayH n g a b c)
def L4 : List (Nat × FSpec) := [(117, sIn)]
theorem L4_ok : GOK Tryz.prog (tab L4) := gok_cons in_ok (gok_nil _)
set_option maxHeartbeats 4000000 in
set_option maxRecDepth 100000 in
theorem mayH_ok : Meets Tryz.prog 118 sMayH := by
  refine meets_plain L4_ok rfl [] (fn := Tryz.f118) rfl rfl rfl (by decide) fun ⟨n, g, op, a, b, c⟩ ⟨h0, h1, h2, h3⟩ => ?_
  have hn : n = 0 ∨ n = 1 ∨ n = 2 ∨ n = 3 := by omega
  rcases hn with rfl | rfl | rfl | rfl
  · repeat' (first | exact @id (emp _ = true) | (intro h; first | exact Bool.noConfusion h | (simp only [Qn] at h) | skip) | ((conv => whnf) <;> (first | exact trivial | apply Qa | apply And.intro | apply Qb | apply Qc | apply Qd | apply Qe | apply Qf | apply Qg | apply Qh | apply Qi | exact QA | exact QP | refine QG ?_ | apply Qj | apply Qk | apply Ql | apply Qm | apply Qo | apply Qp | apply Qw | apply Qv | apply Qu | apply Qt | apply Qs | apply Qr | apply Qq | apply Qx | apply wrapS | apply Qy | (with_reducible exact lenNil) | apply Eq.refl)) | ((with_reducible first | apply Y1 | apply Y2 | apply Y3 | show blkEq _ _ _); conv => whnf))
    apply LoopP.up (G := Nat) (fun k => k ≤ 0 ∧ Up k fun i => inF ([a, b, c].getD i 0) 0 7 = true) [2, 5, 17, 18, 19] (fun k => [(19, .i k)]) (fun _ => []) 3 (fun k => 0 - k)
    apply And.intro
    · refine CutE.at 0 ?_
      repeat' (first | exact @id (emp _ = true) | (intro h; first | exact Bool.noConfusion h | (simp only [Qn] at h) | skip) | ((conv => whnf) <;> (first | exact trivial | apply Qa | apply And.intro | apply EntP.id 3 | apply Qb | apply Qc | apply Qd | apply Qe | apply Qf | apply Qg | apply Qh | apply Qi | exact QA | exact QP | refine QG ?_ | apply Qj | apply Qk | apply Ql | apply Qm | apply Qo | apply Qp | apply Qw | apply Qv | apply Qu | apply Qt | apply Qs | apply Qr | apply Qq | apply Qx | apply wrapS | apply Qy | (with_reducible exact lenNil) | apply Eq.refl)) | ((with_reducible first | apply Y1 | apply Y2 | apply Y3 | show blkEq _ _ _); conv => whnf))
      all_goals first | omega | exact Up.zero _ | trace_state
    · rintro k ⟨hk, hu⟩
      repeat' (first | exact @id (emp _ = true) | (intro h; first | exact Bool.noConfusion h | (simp only [Qn] at h) | skip) | ((conv => whnf) <;> (first | exact trivial | apply Qa | apply And.intro | refine CutE.at (A := Nat) (k + 1) ?_ | apply EntP.id 3 | apply Qb | apply Qc | apply Qd | apply Qe | apply Qf | apply Qg | apply Qh | apply Qi | exact QA | exact QP | refine QG ?_ | apply Qj | apply Qk | apply Ql | apply Qm | apply Qo | apply Qp | apply Qw | apply Qv | apply Qu | apply Qt | apply Qs | apply Qr | apply Qq | apply Qx | apply wrapS | apply Qy | (with_reducible exact lenNil) | apply Eq.refl)) | ((with_reducible first | apply Y1 | apply Y2 | apply Y3 | show blkEq _ _ _); conv => whnf))
      all_goals try simp only [Int.toNat_natCast] at *
      all_goals first
        | omega
        | exact mayH_no (k := k) (by omega) h
        | exact hu.succ h
        | (show 0 - (k + 1) < 0 - k; omega)
        | (show k + 1 ≤ 0; omega)
        | (rw [mayH_yes (k := k) (by omega) hu, decide_eq_true (by assumption)]; rfl)
        | (rw [mayH_yes (k := k) (by omega) hu, decide_eq_false (by assumption)]; rfl)
        | (rw [callF_go hh h6] at h; exact h)
        | (rw [backF_go hh h6] at h; exact h)
        | assumption
        | (split <;> exact h)
        | trace_state
  · repeat' (first | exact @id (emp _ = true) | (intro h; first | exact Bool.noConfusion h | (simp only [Qn] at h) | skip) | ((conv => whnf) <;> (first | exact trivial | apply Qa | apply And.intro | apply Qb | apply Qc | apply Qd | apply Qe | apply Qf | apply Qg | apply Qh | apply Qi | exact QA | exact QP | refine QG ?_ | apply Qj | apply Qk | apply Ql | apply Qm | apply Qo | apply Qp | apply Qw | apply Qv | apply Qu | apply Qt | apply Qs | apply Qr | apply Qq | apply Qx | apply wrapS | apply Qy | (with_reducible exact lenNil) | apply Eq.refl)) | ((with_reducible first | apply Y1 | apply Y2 | apply Y3 | show blkEq _ _ _); conv => whnf))
    apply LoopP.up (G := Nat) (fun k => k ≤ 1 ∧ Up k fun i => inF ([a, b, c].getD i 0) 0 7 = true) [2, 5, 17, 18, 19] (fun k => [(19, .i k)]) (fun _ => []) 3 (fun k => 1 - k)
    apply And.intro
    · refine CutE.at 0 ?_
      repeat' (first | exact @id (emp _ = true) | (intro h; first | exact Bool.noConfusion h | (simp only [Qn] at h) | skip) | ((conv => whnf) <;> (first | exact trivial | apply Qa | apply And.intro | apply EntP.id 3 | apply Qb | apply Qc | apply Qd | apply Qe | apply Qf | apply Qg | apply Qh | apply Qi | exact QA | exact QP | refine QG ?_ | apply Qj | apply Qk | apply Ql | apply Qm | apply Qo | apply Qp | apply Qw | apply Qv | apply Qu | apply Qt | apply Qs | apply Qr | apply Qq | apply Qx | apply wrapS | apply Qy | (with_reducible exact lenNil) | apply Eq.refl)) | ((with_reducible first | apply Y1 | apply Y2 | apply Y3 | show blkEq _ _ _); conv => whnf))
      all_goals first | omega | exact Up.zero _ | trace_state
    · rintro k ⟨hk, hu⟩
      repeat' (first | exact @id (emp _ = true) | (intro h; first | exact Bool.noConfusion h | (simp only [Qn] at h) | skip) | ((conv => whnf) <;> (first | exact trivial | apply Qa | apply And.intro | refine CutE.at (A := Nat) (k + 1) ?_ | apply EntP.id 3 | apply Qb | apply Qc | apply Qd | apply Qe | apply Qf | apply Qg | apply Qh | apply Qi | exact QA | exact QP | refine QG ?_ | apply Qj | apply Qk | apply Ql | apply Qm | apply Qo | apply Qp | apply Qw | apply Qv | apply Qu | apply Qt | apply Qs | apply Qr | apply Qq | apply Qx | apply wrapS | apply Qy | (with_reducible exact lenNil) | apply Eq.refl)) | ((with_reducible first | apply Y1 | apply Y2 | apply Y3 | show blkEq _ _ _); conv => whnf))
      all_goals try simp only [Int.toNat_natCast] at *
      all_goals first
        | omega
        | exact mayH_no (k := k) (by omega) h
        | (rw [gd1 (b := b) (c := c) (by omega)] at h; first | exact mayH_no (k := k) (by omega) h | exact hu.succ h)
        | exact hu.succ h
        | (show 1 - (k + 1) < 1 - k; omega)
        | (show k + 1 ≤ 1; omega)
        | (rw [mayH_yes (k := k) (by omega) hu, decide_eq_true (by assumption)]; rfl)
        | (rw [mayH_yes (k := k) (by omega) hu, decide_eq_false (by assumption)]; rfl)
        | (rw [callF_go hh h6] at h; exact h)
        | (rw [backF_go hh h6] at h; exact h)
        | assumption
        | (split <;> exact h)
        | trace_state
  · repeat' (first | exact @id (emp _ = true) | (intro h; first | exact Bool.noConfusion h | (simp only [Qn] at h) | skip) | ((conv => whnf) <;> (first | exact trivial | apply Qa | apply And.intro | apply Qb | apply Qc | apply Qd | apply Qe | apply Qf | apply Qg | apply Qh | apply Qi | exact QA | exact QP | refine QG ?_ | apply Qj | apply Qk | apply Ql | apply Qm | apply Qo | apply Qp | apply Qw | apply Qv | apply Qu | apply Qt | apply Qs | apply Qr | apply Qq | apply Qx | apply wrapS | apply Qy | (with_reducible exact lenNil) | apply Eq.refl)) | ((with_reducible first | apply Y1 | apply Y2 | apply Y3 | show blkEq _ _ _); conv => whnf))
    apply LoopP.up (G := Nat) (fun k => k ≤ 2 ∧ Up k fun i => inF ([a, b, c].getD i 0) 0 7 = true) [2, 5, 17, 18, 19] (fun k => [(19, .i k)]) (fun _ => []) 3 (fun k => 2 - k)
    apply And.intro
    · refine CutE.at 0 ?_
      repeat' (first | exact @id (emp _ = true) | (intro h; first | exact Bool.noConfusion h | (simp only [Qn] at h) | skip) | ((conv => whnf) <;> (first | exact trivial | apply Qa | apply And.intro | apply EntP.id 3 | apply Qb | apply Qc | apply Qd | apply Qe | apply Qf | apply Qg | apply Qh | apply Qi | exact QA | exact QP | refine QG ?_ | apply Qj | apply Qk | apply Ql | apply Qm | apply Qo | apply Qp | apply Qw | apply Qv | apply Qu | apply Qt | apply Qs | apply Qr | apply Qq | apply Qx | apply wrapS | apply Qy | (with_reducible exact lenNil) | apply Eq.refl)) | ((with_reducible first | apply Y1 | apply Y2 | apply Y3 | show blkEq _ _ _); conv => whnf))
      all_goals first | omega | exact Up.zero _ | trace_state
    · rintro k ⟨hk, hu⟩
      repeat' (first | exact @id (emp _ = true) | (intro h; first | exact Bool.noConfusion h | (simp only [Qn] at h) | skip) | ((conv => whnf) <;> (first | exact trivial | apply Qa | apply And.intro | refine CutE.at (A := Nat) (k + 1) ?_ | apply EntP.id 3 | apply Qb | apply Qc | apply Qd | apply Qe | apply Qf | apply Qg | apply Qh | apply Qi | exact QA | exact QP | refine QG ?_ | apply Qj | apply Qk | apply Ql | apply Qm | apply Qo | apply Qp | apply Qw | apply Qv | apply Qu | apply Qt | apply Qs | apply Qr | apply Qq | apply Qx | apply wrapS | apply Qy | (with_reducible exact lenNil) | apply Eq.refl)) | ((with_reducible first | apply Y1 | apply Y2 | apply Y3 | show blkEq _ _ _); conv => whnf))
      all_goals try simp only [Int.toNat_natCast] at *
      all_goals first
        | omega
        | exact mayH_no (k := k) (by omega) h
        | (rw [gd2 (c := c) (by omega)] at h; first | exact mayH_no (k := k) (by omega) h | exact hu.succ h)
        | exact hu.succ h
        | (show 2 - (k + 1) < 2 - k; omega)
        | (show k + 1 ≤ 2; omega)
        | (rw [mayH_yes (k := k) (by omega) hu, decide_eq_true (by assumption)]; rfl)
        | (rw [mayH_yes (k := k) (by omega) hu, decide_eq_false (by assumption)]; rfl)
        | (rw [callF_go hh h6] at h; exact h)
        | (rw [backF_go hh h6] at h; exact h)
        | assumption
        | (split <;> exact h)
        | trace_state
  · repeat' (first | exact @id (emp _ = true) | (intro h; first | exact Bool.noConfusion h | (simp only [Qn] at h) | skip) | ((conv => whnf) <;> (first | exact trivial | apply Qa | apply And.intro | apply Qb | apply Qc | apply Qd | apply Qe | apply Qf | apply Qg | apply Qh | apply Qi | exact QA | exact QP | refine QG ?_ | apply Qj | apply Qk | apply Ql | apply Qm | apply Qo | apply Qp | apply Qw | apply Qv | apply Qu | apply Qt | apply Qs | apply Qr | apply Qq | apply Qx | apply wrapS | apply Qy | (with_reducible exact lenNil) | apply Eq.refl)) | ((with_reducible first | apply Y1 | apply Y2 | apply Y3 | show blkEq _ _ _); conv => whnf))
    apply LoopP.up (G := Nat) (fun k => k ≤ 3 ∧ Up k fun i => inF ([a, b, c].getD i 0) 0 7 = true) [2, 5, 17, 18, 19] (fun k => [(19, .i k)]) (fun _ => []) 3 (fun k => 3 - k)
    apply And.intro
    · refine CutE.at 0 ?_
      repeat' (first | exact @id (emp _ = true) | (intro h; first | exact Bool.noConfusion h | (simp only [Qn] at h) | skip) | ((conv => whnf) <;> (first | exact trivial | apply Qa | apply And.intro | apply EntP.id 3 | apply Qb | apply Qc | apply Qd | apply Qe | apply Qf | apply Qg | apply Qh | apply Qi | exact QA | exact QP | refine QG ?_ | apply Qj | apply Qk | apply Ql | apply Qm | apply Qo | apply Qp | apply Qw | apply Qv | apply Qu | apply Qt | apply Qs | apply Qr | apply Qq | apply Qx | apply wrapS | apply Qy | (with_reducible exact lenNil) | apply Eq.refl)) | ((with_reducible first | apply Y1 | apply Y2 | apply Y3 | show blkEq _ _ _); conv => whnf))
      all_goals first | omega | exact Up.zero _ | trace_state
    · rintro k ⟨hk, hu⟩
      repeat' (first | exact @id (emp _ = true) | (intro h; first | exact Bool.noConfusion h | (simp only [Qn] at h) | skip) | ((conv => whnf) <;> (first | exact trivial | apply Qa | apply And.intro | refine CutE.at (A := Nat) (k + 1) ?_ | apply EntP.id 3 | apply Qb | apply Qc | apply Qd | apply Qe | apply Qf | apply Qg | apply Qh | apply Qi | exact QA | exact QP | refine QG ?_ | apply Qj | apply Qk | apply Ql | apply Qm | apply Qo | apply Qp | apply Qw | apply Qv | apply Qu | apply Qt | apply Qs | apply Qr | apply Qq | apply Qx | apply wrapS | apply Qy | (with_reducible exact lenNil) | apply Eq.refl)) | ((with_reducible first | apply Y1 | apply Y2 | apply Y3 | show blkEq _ _ _); conv => whnf))
      all_goals try simp only [Int.toNat_natCast] at *
      all_goals first
        | omega
        | exact mayH_no (k := k) (by omega) h
        | exact hu.succ h
        | (show 3 - (k + 1) < 3 - k; omega)
        | (show k + 1 ≤ 3; omega)
        | (rw [mayH_yes (k := k) (by omega) hu, decide_eq_true (by assumption)]; rfl)
        | (rw [mayH_yes (k := k) (by omega) hu, decide_eq_false (by assumption)]; rfl)
        | (rw [callF_go hh h6] at h; exact h)
        | (rw [backF_go hh h6] at h; exact h)
        | assumption
        | (split <;> exact h)
        | trace_state
end Go.Eng
namespace Go.Eng
open Go Go.Proofs
def hows : List Cell := [.i 0, .i 0, .v .nilFunc, .i 1, .i (-1), .fn 131 [], .i 2, .i (-1), .fn 132 [], .i 2, .i (-1), .fn 133 [], .i 2, .i (-1), .fn 134 [],
  .i 3, .i (-1), .fn 135 [], .i 3, .i (-1), .fn 136 [], .i 3, .i (-1), .fn 137 [], .i 3, .i (-1), .fn 138 [], .i 3, .i (-1), .fn 139 [],
  .i 0, .i 0, .fn 140 [], .i 1, .i 1, .fn 141 [], .i 1, .i 1, .fn 142 [], .i 0, .i 0, .v .nilFunc, .i 0, .i (-1), .v .nilFunc, .i 1, .i (-1), .fn 143 []]
def sAll : FSpec := spec Unit (fun _ => []) (fun _ => True) fun _ => .s (.agg hows)
set_option maxHeartbeats 4000000 in
set_option maxRecDepth 100000 in
theorem all_ok : Meets Tryz.prog 116 sAll := by
  refine meets_plain (gok_nil _) rfl [] (fn := Tryz.f116) rfl rfl rfl (by decide) fun _ _ => ?_
  repeat' (first | exact @id (emp _ = true) | (intro h; first | exact Bool.noConfusion h | (simp only [Qn] at h) | skip) | ((conv => whnf) <;> (first | exact trivial | apply Qa | apply And.intro | apply Qb | apply Qc | apply Qd | apply Qe | apply Qf | apply Qg | apply Qh | apply Qi | exact QA | exact QP | refine QG ?_ | apply Qj | apply Qk | apply Ql | apply Qm | apply Qo | apply Qp | apply Qw | apply Qv | apply Qu | apply Qt | apply Qs | apply Qr | apply Qq | apply Qx | apply wrapS | apply Qy | (with_reducible exact lenNil) | apply Eq.refl)) | ((with_reducible first | apply Y1 | apply Y2 | apply Y3 | show blkEq _ _ _); conv => whnf))
def L5 : List (Nat × FSpec) := (115, sReady) :: (116, sAll) :: (118, sMayH) :: L1
theorem L5_ok : GOK Tryz.prog (tab L5) := gok_cons ready_ok (gok_cons all_ok (gok_cons mayH_ok L1_ok))
def L6 : List (Nat × FSpec) := (131, s_load) :: (132, s_move) :: (133, s_plus) :: (134, s_mask) :: (135, s_add) :: (136, s_sub) ::
  (137, s_and) :: (138, s_xor) :: (139, s_less) :: (140, s_jump) :: (141, s_zero) :: (142, s_some) :: (143, s_who) :: L5
theorem L6_ok : GOK Tryz.prog (tab L6) := gok_cons load_wk (gok_cons move_wk (gok_cons plus_wk (gok_cons mask_wk (gok_cons add_wk (gok_cons sub_wk (gok_cons and_wk (gok_cons xor_wk (gok_cons less_wk (gok_cons jump_wk (gok_cons zero_wk (gok_cons some_wk (gok_cons who_wk L5_ok))))))))))))
end Go.Eng
