/- A part of the walks, and of the machine that proves them (StP). -/
import Derived.Test.YtgahcoccodhkmaaGreatStM
import Derived.Test.YtgahcoccodhkmaaGreatStQ
set_option linter.unusedVariables false
set_option linter.unusedSimpArgs false
namespace Go.Eng
open Go Go.Proofs
def sGt0 : FSpec := spec Int (fun n => [.i n]) (fun _ => True) fun n => .b (decide (n > 0))
set_option maxHeartbeats 1000000 in
set_option maxRecDepth 100000 in
theorem gt0_ok : Meets Tryz.prog 68 sGt0 := by
  refine meets_plain (gok_nil _) rfl [] (fn := Tryz.f68) rfl rfl rfl (by decide) fun n _ => ?_
  repeat' (first | exact @id (emp _ = true) | (intro h; first | exact Bool.noConfusion h | (simp only [Qn] at h) | skip) | ((conv => whnf) <;> (first | exact trivial | apply Qa | apply And.intro | apply Qb | apply Qc | apply Qd | apply Qe | apply Qf | apply Qg | apply Qh | apply Qi | exact QA | exact QP | refine QG ?_ | apply Qj | apply Qk | apply Ql | apply Qm | apply Qo | apply Qp | apply Qw | apply Qv | apply Qu | apply Qt | apply Qs | apply Qr | apply Qq | apply Qx | apply wrapS | apply Qy | (with_reducible exact lenNil) | apply Eq.refl)) | ((with_reducible first | apply Y1 | apply Y2 | apply Y3 | show blkEq _ _ _); conv => whnf))
def P1 : List (Nat × FSpec) := [(68, sGt0)]
theorem P1_ok : GOK Tryz.prog (tab P1) := gok_cons gt0_ok (gok_nil _)
def sLfIdx : FSpec := lentSpec 0 (List Int) (fun b => [.c (intsS b), .c (.fn 68 [])]) (fun b => []) (fun b => b.length ≤ 1000000)
  (fun b => .i (idxW (fun n => decide (n > 0)) b 0)) fun b => []
set_option maxHeartbeats 4000000 in
set_option maxRecDepth 100000 in
theorem LfIdx_ok : Meets Tryz.prog 114 sLfIdx := by
  refine meets_lent 0 P1_ok rfl [] (fn := Tryz.f114) rfl rfl rfl (by decide) (fun _ => rfl) (fun _ => rfl) (by decide) fun b hb => ?_
  have hb : b.length ≤ 1000000 := hb
  repeat' (first | exact @id (emp _ = true) | (intro h; first | exact Bool.noConfusion h | (simp only [Qn] at h) | skip) | ((conv => whnf) <;> (first | exact trivial | apply Qa | apply And.intro | apply Qb | apply Qc | apply Qd | apply Qe | apply Qf | apply Qg | apply Qh | apply Qi | exact QA | exact QP | refine QG ?_ | apply Qj | apply Qk | apply Ql | apply Qm | apply Qo | apply Qp | apply Qw | apply Qv | apply Qu | apply Qt | apply Qs | apply Qr | apply Qq | apply Qx | apply wrapS | apply Qy | (with_reducible exact lenNil) | apply Eq.refl)) | ((with_reducible first | apply Y1 | apply Y2 | apply Y3 | show blkEq _ _ _); conv => whnf))
  apply LoopP.up (G := Nat) (fun k => k ≤ b.length ∧ idxW (fun n => decide (n > 0)) b 0 = idxW (fun n => decide (n > 0)) (b.drop k) k) [0, 1, 7, 8] (fun k => [(8, .i k)]) (fun _ => []) 0 (fun k => b.length - k)
  apply And.intro
  · refine CutE.at 0 ?_
    repeat' (first | exact @id (emp _ = true) | (intro h; first | exact Bool.noConfusion h | (simp only [Qn] at h) | skip) | ((conv => whnf) <;> (first | exact trivial | apply Qa | apply And.intro | apply EntP.id 0 | apply Qb | apply Qc | apply Qd | apply Qe | apply Qf | apply Qg | apply Qh | apply Qi | exact QA | exact QP | refine QG ?_ | apply Qj | apply Qk | apply Ql | apply Qm | apply Qo | apply Qp | apply Qw | apply Qv | apply Qu | apply Qt | apply Qs | apply Qr | apply Qq | apply Qx | apply wrapS | apply Qy | (with_reducible exact lenNil) | apply Eq.refl)) | ((with_reducible first | apply Y1 | apply Y2 | apply Y3 | show blkEq _ _ _); conv => whnf))
    all_goals try simp only [Int.toNat_natCast, Int.toNat_zero, ge_iff_le, gt_iff_lt, Int.ofNat_le, Int.ofNat_lt, Int.ofNat_inj] at *
    all_goals first
      | omega
      | (dsimp only; omega)
      | assumption
      | exact Up.zero _
      | (show ((8 : Nat) : Int) * _ ≤ _; omega)
      | (show _ * (8 : Nat) ≤ _; omega)
      | (show _ * (16 : Nat) ≤ _; omega)
      | (show _ * (24 : Nat) ≤ _; omega)
      | trace_state
  · intro k ⟨hk, hI⟩
    have hs : k < b.length → idxW (fun n => decide (n > 0)) (b.drop k) k = if (fun n => decide (n > 0)) (b.getD k default) = true then (k : Int) else idxW (fun n => decide (n > 0)) (b.drop (k + 1)) (k + 1) := fun h => by rw [drop_getD (d := default) h, idxW]
    repeat' (first | exact @id (emp _ = true) | (intro h; first | exact Bool.noConfusion h | (simp only [Qn] at h) | skip) | ((conv => whnf) <;> (first | exact trivial | apply Qa | apply And.intro | refine CutE.at (A := Nat) (k + 1) ?_ | apply EntP.id 0 | apply Qb | apply Qc | apply Qd | apply Qe | apply Qf | apply Qg | apply Qh | apply Qi | exact QA | exact QP | refine QG ?_ | apply Qj | apply Qk | apply Ql | apply Qm | apply Qo | apply Qp | apply Qw | apply Qv | apply Qu | apply Qt | apply Qs | apply Qr | apply Qq | apply Qx | apply wrapS | apply Qy | (with_reducible exact lenNil) | apply Eq.refl)) | ((with_reducible first | apply Y1 | apply Y2 | apply Y3 | show blkEq _ _ _); conv => whnf))
    all_goals try simp only [Int.toNat_natCast] at *
    all_goals first
      | omega
      | (rw [hI, hs (by omega), if_pos (by assumption)])
      | (rw [hI, hs (by omega), if_pos (show (!_) = true by first | (rw [h]; rfl) | assumption)])
      | (rw [hI, hs (by omega), if_neg (by assumption)])
      | (rw [hI, hs (by omega), if_neg (show ¬ (!_) = true by first | (rw [h]; exact Bool.noConfusion) | assumption)])
      | (rw [hI, hs (by omega), h]; rfl)
      | (rw [hI, List.drop_eq_nil_of_le (by omega)]; rfl)
      | (rw [hI, hs (by omega), if_pos (decide_eq_true (by assumption))])
      | (rw [hI, hs (by omega), if_neg (by rw [decide_eq_true_eq]; assumption)])
      | trace_state
def sLfCont : FSpec := lentSpec 0 (List Int) (fun b => [.c (intsS b), .c (.fn 68 [])]) (fun b => []) (fun b => b.length ≤ 1000000)
  (fun b => .b (b.any (fun n => decide (n > 0)))) fun b => []
def P1' : List (Nat × FSpec) := (114, sLfIdx) :: P1
theorem P1'_ok : GOK Tryz.prog (tab P1') := gok_cons LfIdx_ok P1_ok
set_option maxHeartbeats 4000000 in
set_option maxRecDepth 100000 in
theorem LfCont_ok : Meets Tryz.prog 67 sLfCont := by
  refine meets_lent 0 P1'_ok rfl [] (fn := Tryz.f67) rfl rfl rfl (by decide) (fun _ => rfl) (fun _ => rfl) (by decide) fun b hb => ?_
  have hb : b.length ≤ 1000000 := hb
  have hi := idxW_any (fun n => decide (n > 0)) b 0
  repeat' (first | exact @id (emp _ = true) | (intro h; first | exact Bool.noConfusion h | (simp only [Qn] at h) | skip) | ((conv => whnf) <;> (first | exact trivial | apply Qa | apply And.intro | apply Qb | apply Qc | apply Qd | apply Qe | apply Qf | apply Qg | apply Qh | apply Qi | exact QA | exact QP | refine QG ?_ | apply Qj | apply Qk | apply Ql | apply Qm | apply Qo | apply Qp | apply Qw | apply Qv | apply Qu | apply Qt | apply Qs | apply Qr | apply Qq | apply Qx | apply wrapS | apply Qy | (with_reducible exact lenNil) | apply Eq.refl)) | ((with_reducible first | apply Y1 | apply Y2 | apply Y3 | show blkEq _ _ _); conv => whnf))
  all_goals first
    | exact hb
    | exact hb
    | exact hi.symm

    | trace_state
def canK (w : Wd) (i : Int) (t : Th) (x : Ins) : Bool := if ¬ t.st = 0 then false else canI w t (w.l.getD i.toNat default) x
theorem canK_eq (w : Wd) (i : Int) : canF w i = canK w i (thOf w i) (insOr w (thOf w i)) := by
  unfold canF canK
  split
  · rfl
  · split
    · rw [insOr_end (by omega)]; rfl
    · rw [insOr_in (by omega)]
section
variable {w : Wd} {i : Int} {t : Th} {op a b c : Int}
theorem canK_st (h : ¬ t.st = 0) : canK w i t (op, a, b, c) = false := if_pos h
theorem canK_in (h : t.st = 0) : canK w i t (op, a, b, c) = canI w t (w.l.getD i.toNat default) (op, a, b, c) := if_neg (fun hh => hh h)
variable (h : t.st = 0)
include h
theorem canK_17a (ho : op = 17) (hb : ((w.l.getD i.toNat default).length : Int) < w.d) : canK w i t (op, a, b, c) = true := by
  subst ho; rw [canK_in h]; exact decide_eq_true (.inr hb)
theorem canK_17b (ho : op = 17) (hb : ¬ ((w.l.getD i.toNat default).length : Int) < w.d) : canK w i t (op, a, b, c) = (w.d == 0) := by
  subst ho; rw [canK_in h]
  show decide (w.d = 0 ∨ _) = decide (w.d = 0)
  congr 1; apply propext; omega
theorem canK_18 (ho : op = 18 ∨ op = 19 ∨ op = 20 ∨ op = 21) : canK w i t (op, a, b, c) = (((w.l.getD i.toNat default).length : Int) == 0) := by
  rw [canK_in h, canI, if_neg (show ¬ op = 17 by omega), if_pos (show op = 18 ∨ op = 19 ∨ op = 20 ∨ op = 21 from ho)]; rfl
theorem canK_22 (ho : op = 22) : canK w i t (op, a, b, c) = !t.lf.any fun n => decide (n > 0) := by
  subst ho; rw [canK_in h]; rfl
theorem canK_23a (ho : op = 23) (hb : ¬ ((w.l.getD i.toNat default).length : Int) = 0) : canK w i t (op, a, b, c) = false := by
  subst ho; rw [canK_in h]; exact decide_eq_false fun hh => hb hh.1
theorem canK_23b (ho : op = 23) (hb : ((w.l.getD i.toNat default).length : Int) = 0) (he : ¬ (loadF w.ws w.ts (getR t b)).2 = 0) : canK w i t (op, a, b, c) = true := by
  subst ho; rw [canK_in h]; exact decide_eq_true ⟨hb, .inl he⟩
theorem canK_23c (ho : op = 23) (hb : ((w.l.getD i.toNat default).length : Int) = 0) (he : (loadF w.ws w.ts (getR t b)).2 = 0) : canK w i t (op, a, b, c) = ((loadF w.ws w.ts (getR t b)).1 != getR t a) := by
  subst ho; rw [canK_in h, bne, Bool.eq_iff_iff, Bool.not_eq_true', beq_eq_false_iff_ne]
  show decide (_ ∧ _) = true ↔ _
  rw [decide_eq_true_eq]
  exact ⟨fun hh => hh.2.resolve_left (fun hn => hn he), fun hh => ⟨hb, .inr hh⟩⟩
theorem canK_other (ho : ¬ op = 17 ∧ ¬ op = 18 ∧ ¬ op = 19 ∧ ¬ op = 20 ∧ ¬ op = 21 ∧ ¬ op = 22 ∧ ¬ op = 23) : canK w i t (op, a, b, c) = true := by
  rw [canK_in h, canI, if_neg (show ¬ op = 17 by omega), if_neg (show ¬ (op = 18 ∨ op = 19 ∨ op = 20 ∨ op = 21) by omega), if_neg (show ¬ op = 22 by omega), if_neg (show ¬ op = 23 by omega)]
end
def P2 : List (Nat × FSpec) := (67, sLfCont) :: (69, sLoad) :: P1'
theorem P2_ok : GOK Tryz.prog (tab P2) := gok_cons LfCont_ok (gok_cons load_ok P1'_ok)
def sWCan : FSpec := lentSpec 1 (Bool × Wk8) (fun _ => [.c (.ptr 0 0)]) (fun (e, w, i, t, x) => wxBe e w i t x) (fun (_, w, i, t, x) => (0 ≤ i ∧ i < w.l.length) ∧ t.lf.length ≤ 1000000 ∧ (x.1 = 23 → Reg x.2.1 ∧ Reg x.2.2.1)) (fun (_, w, i, t, x) => .b (canK w i t x)) fun (e, w, i, t, x) => wxBe e w i t x
set_option maxHeartbeats 2000000 in
set_option maxRecDepth 100000 in
theorem wcan_ok : Meets Tryz.prog 32 sWCan := by
  refine meets_lent 1 P2_ok rfl [] (fn := Tryz.f32) rfl rfl rfl (by decide) (fun _ => rfl) (fun _ => rfl) (by decide) fun ⟨e, w, i, t, op, a, b, c⟩ ⟨hi, hl, hr⟩ => ?_
  have hi : 0 ≤ i ∧ i < w.l.length := hi
  have hr : op = 23 → (0 ≤ a ∧ a ≤ 7) ∧ 0 ≤ b ∧ b ≤ 7 := hr
  have hl : t.lf.length ≤ 1000000 := hl
  repeat' (first | exact @id (emp _ = true) | (intro h; first | exact Bool.noConfusion h | (simp only [Qn] at h) | skip) | ((conv => whnf) <;> (first | exact trivial | apply Qa | apply And.intro | apply Qb | apply Qc | apply Qd | apply Qe | apply Qf | apply Qg | apply Qh | apply Qi | exact QA | exact QP | refine QG ?_ | apply Qj | apply Qk | apply Ql | apply Qm | apply Qo | apply Qp | apply Qw | apply Qv | apply Qu | apply Qt | apply Qs | apply Qr | apply Qq | apply Qx | apply wrapS | apply Qy | (with_reducible exact lenNil) | apply Eq.refl)) | ((with_reducible first | apply Y1 | apply Y2 | apply Y3 | show blkEq _ _ _); conv => whnf))
  all_goals first
    | omega
    | exact hl
    | exact canK_st (by assumption)
    | exact canK_17a (by assumption) (by assumption) (by assumption)
    | exact canK_17b (by assumption) (by assumption) (by assumption)
    | exact canK_18 (by assumption) (.inl (by assumption))
    | exact canK_18 (by assumption) (.inr (.inl (by assumption)))
    | exact canK_18 (by assumption) (.inr (.inr (.inl (by assumption))))
    | exact canK_18 (by assumption) (.inr (.inr (.inr (by assumption))))
    | exact canK_22 (by assumption) (by assumption)
    | exact canK_23a (by assumption) (by assumption) (by assumption)
    | exact canK_23b (by assumption) (by assumption) (by assumption) (by assumption)
    | exact canK_23c (by assumption) (by assumption) (by assumption) (by assumption)
    | exact canK_other (by assumption) ⟨by assumption, by assumption, by assumption, by assumption, by assumption, by assumption, by assumption⟩
    | trace_state
end Go.Eng
