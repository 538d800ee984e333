/- A pool: blocks taken and given back; what is held. -/
import Derived.Test.YtmjogckeaaaicaaPoC
set_option linter.unusedVariables false
set_option linter.unusedSimpArgs false
namespace Go.Eng
open Go Go.Proofs

theorem takeP_no {p : Pl} (h : plR p = false) : takeP p = (pl0, 0, 1) := by rw [takeP, h]; rfl
theorem takeP_none {p : Pl} (h : plR p = true) (h2 : p.2.2.2.length = 0) : takeP p = (pl0, 0, 14) := by rw [takeP, if_pos h, if_pos h2]
theorem takeP_go {p : Pl} (h : plR p = true) (h2 : ¬ p.2.2.2.length = 0) : takeP p = ((p.1, p.2.1, p.2.2.1, p.2.2.2.take (p.2.2.2.length - 1)), p.2.2.2.getD (p.2.2.2.length - 1) 0, 0) := by rw [takeP, if_pos h, if_neg h2]
set_option maxHeartbeats 4000000 in
set_option maxRecDepth 100000 in
theorem take_ok : Meets Try.prog 33 sTake := by
  refine meets_plain P4_ok rfl [] (fn := Try.f33) rfl rfl rfl (by decide) fun ⟨s, b, m, l⟩ hl => ?_
  have hl : l.length ≤ 1000000 := hl
  have hw : IntKind.i64.wrap ((l.length : Int) - 1) = (l.length : Int) - 1 := wrap_i64 (by omega)
  by_cases hr : plR (s, b, m, l) = true
  · by_cases h0 : l.length = 0
    · show bodyK Try.prog _ _ _ _ sTake (s, b, m, l)
      have e1 : sTake.res (s, b, m, l) = .tup [rPl pl0, .c (.i 0), .c (.i 14)] := by show RV.tup _ = _; rw [takeP_none hr h0]
      unfold bodyK
      rw [e1]
      clear e1
      repeat' (first | (intro h; first | exact Bool.noConfusion h | (guard_hyp h : true = true; clear h) | (guard_hyp h : false = false; clear h) | (simp only [decide_eq_true_eq, decide_eq_false_iff_not, beq_iff_eq, beq_eq_false_iff_ne, bne_iff_ne, bne_eq_false_iff_eq, Bool.not_eq_true', Bool.not_eq_false', ne_eq, Classical.not_not, Bool.not_true, Bool.not_false, beqL_iff, beqL_ff, List.cons.injEq, and_true] at h) | skip) | ((conv => whnf) <;> (first | exact True.intro | apply br_rec | apply And.intro | apply CutE.goPl | apply EntP.k0 | apply EntP.k1 | apply EntP.k2 | apply EntP.k3 | apply EntP.k4 | apply EntP.k5 | apply EntP.k6 | apply DrawP.go | (apply AnyP.mk; kernel_rfl) | (refine AggP.go 2 rfl (by kernel_rfl) ?_) | (refine AggP.go 1 rfl (by kernel_rfl) ?_) | (refine AggP.go 3 rfl (by kernel_rfl) ?_) | (refine AggP.go 4 rfl (by kernel_rfl) ?_) | (refine AggP.go 5 rfl (by kernel_rfl) ?_) | (refine AggP.go 8 rfl (by kernel_rfl) ?_) | (refine AggP.go 11 rfl (by kernel_rfl) ?_) | apply CallP.own0 | apply CallP.own1 | apply CallP.own2 | apply CallP.own3 | apply CallP.nb | apply CutE.go0 | apply CutE.go7 | apply CutE.go6 | apply CutE.go5 | apply CutE.go4 | apply CutE.go3 | apply CutE.go2 | apply CutE.go1 | apply RoP.id | apply wrapS | (with_reducible exact lenNil) | apply Eq.refl)) | ((first | (with_reducible show rvEq _ _ _ _) | (with_reducible show svEq _ _ _ _) | (with_reducible show cellEq _ _ _ _) | (with_reducible show blkEq _ _ _)); conv => whnf))
      all_goals try simp only [hw] at *
      all_goals first
        | exact hl
        | omega
        | (exfalso; exact Bool.noConfusion (hr.symm.trans (show plR (s, b, m, l) = false by assumption)))
        | (exfalso; omega)
        | trace_state
    · show bodyK Try.prog _ _ _ _ sTake (s, b, m, l)
      have e1 : sTake.res (s, b, m, l) = .tup [rPl (s, b, m, l.take (l.length - 1)), .c (.i (l.getD (l.length - 1) 0)), .c (.i 0)] := by show RV.tup _ = _; rw [takeP_go hr h0]
      unfold bodyK
      rw [e1]
      clear e1
      have hn : ((l.length : Int) - 1).toNat = l.length - 1 := by omega
      repeat' (first | (intro h; first | exact Bool.noConfusion h | (guard_hyp h : true = true; clear h) | (guard_hyp h : false = false; clear h) | (simp only [decide_eq_true_eq, decide_eq_false_iff_not, beq_iff_eq, beq_eq_false_iff_ne, bne_iff_ne, bne_eq_false_iff_eq, Bool.not_eq_true', Bool.not_eq_false', ne_eq, Classical.not_not, Bool.not_true, Bool.not_false, beqL_iff, beqL_ff, List.cons.injEq, and_true] at h) | skip) | ((conv => whnf) <;> (first | exact True.intro | apply br_rec | apply And.intro | apply CutE.goPl | refine CutE.at (A := List Int) (l.take (l.length - 1)) ?_ | apply EntP.k0 | apply EntP.k1 | apply EntP.k2 | apply EntP.k3 | apply EntP.k4 | apply EntP.k5 | apply EntP.k6 | apply DrawP.go | (apply AnyP.mk; kernel_rfl) | (refine AggP.go 2 rfl (by kernel_rfl) ?_) | (refine AggP.go 1 rfl (by kernel_rfl) ?_) | (refine AggP.go 3 rfl (by kernel_rfl) ?_) | (refine AggP.go 4 rfl (by kernel_rfl) ?_) | (refine AggP.go 5 rfl (by kernel_rfl) ?_) | (refine AggP.go 8 rfl (by kernel_rfl) ?_) | (refine AggP.go 11 rfl (by kernel_rfl) ?_) | apply CallP.own0 | apply CallP.own1 | apply CallP.own2 | apply CallP.own3 | apply CallP.nb | apply CutE.go0 | apply CutE.go7 | apply CutE.go6 | apply CutE.go5 | apply CutE.go4 | apply CutE.go3 | apply CutE.go2 | apply CutE.go1 | apply RoP.id | apply wrapS | (with_reducible exact lenNil) | apply Eq.refl)) | ((first | (with_reducible show rvEq _ _ _ _) | (with_reducible show svEq _ _ _ _) | (with_reducible show cellEq _ _ _ _) | (with_reducible show blkEq _ _ _)); conv => whnf))
      all_goals try simp only [hw, hn] at *
      all_goals first
        | exact hl
        | omega
        | (exfalso; exact Bool.noConfusion (hr.symm.trans (show plR (s, b, m, l) = false by assumption)))
        | (exfalso; omega)
        | rfl
        | (rw [List.length_take]; omega)
        | (show (l.take _).length ≤ _; rw [List.length_take]; omega)
        | exact takeN_at (by assumption)
        | trace_state
  · have hr : plR (s, b, m, l) = false := by simpa using hr
    show bodyK Try.prog _ _ _ _ sTake (s, b, m, l)
    have e1 : sTake.res (s, b, m, l) = .tup [rPl pl0, .c (.i 0), .c (.i 1)] := by show RV.tup _ = _; rw [takeP_no hr]
    unfold bodyK
    rw [e1]
    clear e1
    repeat' (first | (intro h; first | exact Bool.noConfusion h | (guard_hyp h : true = true; clear h) | (guard_hyp h : false = false; clear h) | (simp only [decide_eq_true_eq, decide_eq_false_iff_not, beq_iff_eq, beq_eq_false_iff_ne, bne_iff_ne, bne_eq_false_iff_eq, Bool.not_eq_true', Bool.not_eq_false', ne_eq, Classical.not_not, Bool.not_true, Bool.not_false, beqL_iff, beqL_ff, List.cons.injEq, and_true] at h) | skip) | ((conv => whnf) <;> (first | exact True.intro | apply br_rec | apply And.intro | apply CutE.goPl | refine CutE.at (A := List Int) (l.take (l.length - 1)) ?_ | apply EntP.k0 | apply EntP.k1 | apply EntP.k2 | apply EntP.k3 | apply EntP.k4 | apply EntP.k5 | apply EntP.k6 | apply DrawP.go | (apply AnyP.mk; kernel_rfl) | (refine AggP.go 2 rfl (by kernel_rfl) ?_) | (refine AggP.go 1 rfl (by kernel_rfl) ?_) | (refine AggP.go 3 rfl (by kernel_rfl) ?_) | (refine AggP.go 4 rfl (by kernel_rfl) ?_) | (refine AggP.go 5 rfl (by kernel_rfl) ?_) | (refine AggP.go 8 rfl (by kernel_rfl) ?_) | (refine AggP.go 11 rfl (by kernel_rfl) ?_) | apply CallP.own0 | apply CallP.own1 | apply CallP.own2 | apply CallP.own3 | apply CallP.nb | apply CutE.go0 | apply CutE.go7 | apply CutE.go6 | apply CutE.go5 | apply CutE.go4 | apply CutE.go3 | apply CutE.go2 | apply CutE.go1 | apply RoP.id | apply wrapS | (with_reducible exact lenNil) | apply Eq.refl)) | ((first | (with_reducible show rvEq _ _ _ _) | (with_reducible show svEq _ _ _ _) | (with_reducible show cellEq _ _ _ _) | (with_reducible show blkEq _ _ _)); conv => whnf))
    all_goals try simp only [hw] at *
    all_goals first
      | exact hl
      | (exfalso; exact Bool.noConfusion (hr.symm.trans (show plR (s, b, m, l) = true by assumption)))
      | trace_state
theorem giveP_no {p : Pl} {x : Int} (h : plR p = false) : giveP p x = (pl0, 1) := by rw [giveP, h]; rfl
theorem giveP_out {p : Pl} {x : Int} (h : plR p = true) (h2 : (plB p).contains x = false) : giveP p x = (pl0, 3) := by rw [giveP, if_pos h, h2]; rfl
theorem giveP_twice {p : Pl} {x : Int} (h : plR p = true) (h2 : (plB p).contains x = true) (h3 : p.2.2.2.contains x = true) : giveP p x = (pl0, 5) := by rw [giveP, if_pos h, if_pos h2, if_pos h3]
theorem giveP_go {p : Pl} {x : Int} (h : plR p = true) (h2 : (plB p).contains x = true) (h3 : p.2.2.2.contains x = false) : giveP p x = ((p.1, p.2.1, p.2.2.1, p.2.2.2 ++ [x]), 0) := by rw [giveP, if_pos h, if_pos h2, h3]; rfl
set_option maxHeartbeats 4000000 in
set_option maxRecDepth 100000 in
theorem give_ok : Meets Try.prog 32 sGive := by
  refine meets_plain P4_ok rfl [] (fn := Try.f32) rfl rfl rfl (by decide) fun ⟨(s, b, m, l), x⟩ hl => ?_
  have hl : l.length ≤ 100000 := hl
  have hl' : l.length ≤ 1000000 := by omega
  cases hr : plR (s, b, m, l) with
  | false =>
    show bodyK Try.prog _ _ _ _ sGive ((s, b, m, l), x)
    have e1 : sGive.res ((s, b, m, l), x) = .tup [rPl pl0, .c (.i 1)] := by show RV.tup _ = _; rw [giveP_no hr]
    unfold bodyK
    rw [e1]
    clear e1
    repeat' (first | (intro h; first | exact Bool.noConfusion h | (guard_hyp h : true = true; clear h) | (guard_hyp h : false = false; clear h) | (simp only [decide_eq_true_eq, decide_eq_false_iff_not, beq_iff_eq, beq_eq_false_iff_ne, bne_iff_ne, bne_eq_false_iff_eq, Bool.not_eq_true', Bool.not_eq_false', ne_eq, Classical.not_not, Bool.not_true, Bool.not_false, beqL_iff, beqL_ff, List.cons.injEq, and_true] at h) | skip) | ((conv => whnf) <;> (first | exact True.intro | apply br_rec | apply And.intro | apply CutE.goPl1 | apply CutE.goPl | apply EntP.k0 | apply EntP.k1 | apply EntP.k2 | apply EntP.k3 | apply EntP.k4 | apply EntP.k5 | apply EntP.k6 | apply DrawP.go | (apply AnyP.mk; kernel_rfl) | (refine AggP.go 2 rfl (by kernel_rfl) ?_) | (refine AggP.go 1 rfl (by kernel_rfl) ?_) | (refine AggP.go 3 rfl (by kernel_rfl) ?_) | (refine AggP.go 4 rfl (by kernel_rfl) ?_) | (refine AggP.go 5 rfl (by kernel_rfl) ?_) | (refine AggP.go 8 rfl (by kernel_rfl) ?_) | (refine AggP.go 11 rfl (by kernel_rfl) ?_) | apply CallP.own0 | apply CallP.own1 | apply CallP.own2 | apply CallP.own3 | apply CallP.nb | apply CutE.go0 | apply CutE.go7 | apply CutE.go6 | apply CutE.go5 | apply CutE.go4 | apply CutE.go3 | apply CutE.go2 | apply CutE.go1 | apply RoP.id | apply wrapS | (with_reducible exact lenNil) | apply Eq.refl)) | ((first | (with_reducible show rvEq _ _ _ _) | (with_reducible show svEq _ _ _ _) | (with_reducible show cellEq _ _ _ _) | (with_reducible show blkEq _ _ _)); conv => whnf))
    all_goals first
      | exact hl'
      | (exfalso; exact Bool.noConfusion (hr.symm.trans (show plR (s, b, m, l) = true by assumption)))
      | trace_state
  | true =>
    have hp := plR_ok hr
    cases hb : (plB (s, b, m, l)).contains x with
    | false =>
      show bodyK Try.prog _ _ _ _ sGive ((s, b, m, l), x)
      have e1 : sGive.res ((s, b, m, l), x) = .tup [rPl pl0, .c (.i 3)] := by show RV.tup _ = _; rw [giveP_out hr hb]
      unfold bodyK
      rw [e1]
      clear e1
      repeat' (first | (intro h; first | exact Bool.noConfusion h | (guard_hyp h : true = true; clear h) | (guard_hyp h : false = false; clear h) | (simp only [decide_eq_true_eq, decide_eq_false_iff_not, beq_iff_eq, beq_eq_false_iff_ne, bne_iff_ne, bne_eq_false_iff_eq, Bool.not_eq_true', Bool.not_eq_false', ne_eq, Classical.not_not, Bool.not_true, Bool.not_false, beqL_iff, beqL_ff, List.cons.injEq, and_true] at h) | skip) | ((conv => whnf) <;> (first | exact True.intro | apply br_rec | apply And.intro | apply CutE.goPl1 | apply CutE.goPl | apply EntP.k0 | apply EntP.k1 | apply EntP.k2 | apply EntP.k3 | apply EntP.k4 | apply EntP.k5 | apply EntP.k6 | apply DrawP.go | (apply AnyP.mk; kernel_rfl) | (refine AggP.go 2 rfl (by kernel_rfl) ?_) | (refine AggP.go 1 rfl (by kernel_rfl) ?_) | (refine AggP.go 3 rfl (by kernel_rfl) ?_) | (refine AggP.go 4 rfl (by kernel_rfl) ?_) | (refine AggP.go 5 rfl (by kernel_rfl) ?_) | (refine AggP.go 8 rfl (by kernel_rfl) ?_) | (refine AggP.go 11 rfl (by kernel_rfl) ?_) | apply CallP.own0 | apply CallP.own1 | apply CallP.own2 | apply CallP.own3 | apply CallP.nb | apply CutE.go0 | apply CutE.go7 | apply CutE.go6 | apply CutE.go5 | apply CutE.go4 | apply CutE.go3 | apply CutE.go2 | apply CutE.go1 | apply RoP.id | apply wrapS | (with_reducible exact lenNil) | apply Eq.refl)) | ((first | (with_reducible show rvEq _ _ _ _) | (with_reducible show svEq _ _ _ _) | (with_reducible show cellEq _ _ _ _) | (with_reducible show blkEq _ _ _)); conv => whnf))
      all_goals first
        | exact hl'
        | exact hp
        | (exfalso; exact Bool.noConfusion (hr.symm.trans (show plR (s, b, m, l) = false by assumption)))
        | (exfalso; exact Bool.noConfusion (hb.symm.trans (show (plB (s, b, m, l)).contains x = true by assumption)))
        | trace_state
    | true =>
      cases hc : l.contains x with
      | true =>
        show bodyK Try.prog _ _ _ _ sGive ((s, b, m, l), x)
        have e1 : sGive.res ((s, b, m, l), x) = .tup [rPl pl0, .c (.i 5)] := by show RV.tup _ = _; rw [giveP_twice hr hb hc]
        unfold bodyK
        rw [e1]
        clear e1
        repeat' (first | (intro h; first | exact Bool.noConfusion h | (guard_hyp h : true = true; clear h) | (guard_hyp h : false = false; clear h) | (simp only [decide_eq_true_eq, decide_eq_false_iff_not, beq_iff_eq, beq_eq_false_iff_ne, bne_iff_ne, bne_eq_false_iff_eq, Bool.not_eq_true', Bool.not_eq_false', ne_eq, Classical.not_not, Bool.not_true, Bool.not_false, beqL_iff, beqL_ff, List.cons.injEq, and_true] at h) | skip) | ((conv => whnf) <;> (first | exact True.intro | apply br_rec | apply And.intro | apply CutE.goPl1 | apply CutE.goPl | apply EntP.k0 | apply EntP.k1 | apply EntP.k2 | apply EntP.k3 | apply EntP.k4 | apply EntP.k5 | apply EntP.k6 | apply DrawP.go | (apply AnyP.mk; kernel_rfl) | (refine AggP.go 2 rfl (by kernel_rfl) ?_) | (refine AggP.go 1 rfl (by kernel_rfl) ?_) | (refine AggP.go 3 rfl (by kernel_rfl) ?_) | (refine AggP.go 4 rfl (by kernel_rfl) ?_) | (refine AggP.go 5 rfl (by kernel_rfl) ?_) | (refine AggP.go 8 rfl (by kernel_rfl) ?_) | (refine AggP.go 11 rfl (by kernel_rfl) ?_) | apply CallP.own0 | apply CallP.own1 | apply CallP.own2 | apply CallP.own3 | apply CallP.nb | apply CutE.go0 | apply CutE.go7 | apply CutE.go6 | apply CutE.go5 | apply CutE.go4 | apply CutE.go3 | apply CutE.go2 | apply CutE.go1 | apply RoP.id | apply wrapS | (with_reducible exact lenNil) | apply Eq.refl)) | ((first | (with_reducible show rvEq _ _ _ _) | (with_reducible show svEq _ _ _ _) | (with_reducible show cellEq _ _ _ _) | (with_reducible show blkEq _ _ _)); conv => whnf))
        all_goals first
          | exact hl'
          | exact hp
          | (exfalso; exact Bool.noConfusion (hr.symm.trans (show plR (s, b, m, l) = false by assumption)))
          | (exfalso; exact Bool.noConfusion (hb.symm.trans (show (plB (s, b, m, l)).contains x = false by assumption)))
          | (exfalso; exact Bool.noConfusion (hc.symm.trans (show l.contains x = false by assumption)))
          | trace_state
      | false =>
        show bodyK Try.prog _ _ _ _ sGive ((s, b, m, l), x)
        have e1 : sGive.res ((s, b, m, l), x) = .tup [rPl (s, b, m, l ++ [x]), .c (.i 0)] := by show RV.tup _ = _; rw [giveP_go hr hb hc]
        unfold bodyK
        rw [e1]
        clear e1
        repeat' (first | (intro h; first | exact Bool.noConfusion h | (guard_hyp h : true = true; clear h) | (guard_hyp h : false = false; clear h) | (simp only [decide_eq_true_eq, decide_eq_false_iff_not, beq_iff_eq, beq_eq_false_iff_ne, bne_iff_ne, bne_eq_false_iff_eq, Bool.not_eq_true', Bool.not_eq_false', ne_eq, Classical.not_not, Bool.not_true, Bool.not_false, beqL_iff, beqL_ff, List.cons.injEq, and_true] at h) | skip) | ((conv => whnf) <;> (first | exact True.intro | apply br_rec | apply And.intro | apply CutE.goPl1 | apply CutE.goPl | apply EntP.k0 | apply EntP.k1 | apply EntP.k2 | apply EntP.k3 | apply EntP.k4 | apply EntP.k5 | apply EntP.k6 | apply DrawP.go | (apply AnyP.mk; kernel_rfl) | (refine AggP.go 2 rfl (by kernel_rfl) ?_) | (refine AggP.go 1 rfl (by kernel_rfl) ?_) | (refine AggP.go 3 rfl (by kernel_rfl) ?_) | (refine AggP.go 4 rfl (by kernel_rfl) ?_) | (refine AggP.go 5 rfl (by kernel_rfl) ?_) | (refine AggP.go 8 rfl (by kernel_rfl) ?_) | (refine AggP.go 11 rfl (by kernel_rfl) ?_) | apply CallP.own0 | apply CallP.own1 | apply CallP.own2 | apply CallP.own3 | apply CallP.nb | apply CutE.go0 | apply CutE.go7 | apply CutE.go6 | apply CutE.go5 | apply CutE.go4 | apply CutE.go3 | apply CutE.go2 | apply CutE.go1 | apply RoP.id | apply wrapS | (with_reducible exact lenNil) | apply Eq.refl)) | ((first | (with_reducible show rvEq _ _ _ _) | (with_reducible show svEq _ _ _ _) | (with_reducible show cellEq _ _ _ _) | (with_reducible show blkEq _ _ _)); conv => whnf))
        all_goals first
          | exact hl'
          | exact hp
          | omega
          | (exfalso; exact Bool.noConfusion (hr.symm.trans (show plR (s, b, m, l) = false by assumption)))
          | (exfalso; exact Bool.noConfusion (hb.symm.trans (show (plB (s, b, m, l)).contains x = false by assumption)))
          | (exfalso; exact Bool.noConfusion (hc.symm.trans (show l.contains x = true by assumption)))
          | (show (l.length + 1) * 8 ≤ _; omega)
          | (rw [List.length_append]; rfl)
          | exact slG_snoc1 rfl (by assumption) (by assumption) rfl
          | trace_state
theorem heldP_no {p : Pl} (h : plR p = false) : heldP p = ([], 1) := by rw [heldP, h]; rfl
theorem heldP_go {p : Pl} (h : plR p = true) : heldP p = (heldF p p.2.2.2, 0) := by rw [heldP, if_pos h]
set_option maxHeartbeats 4000000 in
set_option maxRecDepth 100000 in
theorem held_ok : Meets Try.prog 34 sHeld := by
  refine meets_plain P4_ok rfl [] (fn := Try.f34) rfl rfl rfl (by decide) fun ⟨s, b, m, l⟩ hl => ?_
  have hl : l.length ≤ 1000000 := hl
  cases hr : plR (s, b, m, l) with
  | false =>
    show bodyK Try.prog _ _ _ _ sHeld (s, b, m, l)
    have e1 : sHeld.res (s, b, m, l) = .tup [.c (intsS []), .c (.i 1)] := by show RV.tup _ = _; rw [heldP_no hr]
    unfold bodyK
    rw [e1]
    clear e1
    repeat' (first | (intro h; first | exact Bool.noConfusion h | (guard_hyp h : true = true; clear h) | (guard_hyp h : false = false; clear h) | (simp only [decide_eq_true_eq, decide_eq_false_iff_not, beq_iff_eq, beq_eq_false_iff_ne, bne_iff_ne, bne_eq_false_iff_eq, Bool.not_eq_true', Bool.not_eq_false', ne_eq, Classical.not_not, Bool.not_true, Bool.not_false, beqL_iff, beqL_ff, List.cons.injEq, and_true] at h) | skip) | ((conv => whnf) <;> (first | exact True.intro | apply br_rec | apply And.intro | apply CutE.goPl1 | apply CutE.goPl | apply EntP.k0 | apply EntP.k1 | apply EntP.k2 | apply EntP.k3 | apply EntP.k4 | apply EntP.k5 | apply EntP.k6 | apply DrawP.go | (apply AnyP.mk; kernel_rfl) | (refine AggP.go 2 rfl (by kernel_rfl) ?_) | (refine AggP.go 1 rfl (by kernel_rfl) ?_) | (refine AggP.go 3 rfl (by kernel_rfl) ?_) | (refine AggP.go 4 rfl (by kernel_rfl) ?_) | (refine AggP.go 5 rfl (by kernel_rfl) ?_) | (refine AggP.go 8 rfl (by kernel_rfl) ?_) | (refine AggP.go 11 rfl (by kernel_rfl) ?_) | apply CallP.own0 | apply CallP.own1 | apply CallP.own2 | apply CallP.own3 | apply CallP.nb | apply CutE.go0 | apply CutE.go7 | apply CutE.go6 | apply CutE.go5 | apply CutE.go4 | apply CutE.go3 | apply CutE.go2 | apply CutE.go1 | apply RoP.id | apply wrapS | (with_reducible exact lenNil) | apply Eq.refl)) | ((first | (with_reducible show rvEq _ _ _ _) | (with_reducible show svEq _ _ _ _) | (with_reducible show cellEq _ _ _ _) | (with_reducible show blkEq _ _ _)); conv => whnf))
    all_goals first
      | exact hl
      | (exfalso; exact Bool.noConfusion (hr.symm.trans (show plR (s, b, m, l) = true by assumption)))
      | trace_state
  | true =>
    have hp := plR_ok hr
    show bodyK Try.prog _ _ _ _ sHeld (s, b, m, l)
    have e1 : sHeld.res (s, b, m, l) = .tup [.c (intsS (heldF (s, b, m, l) l)), .c (.i 0)] := by show RV.tup _ = _; rw [heldP_go hr]
    unfold bodyK
    rw [e1]
    clear e1
    repeat' (first | (intro h; first | exact Bool.noConfusion h | (guard_hyp h : true = true; clear h) | (guard_hyp h : false = false; clear h) | (simp only [decide_eq_true_eq, decide_eq_false_iff_not, beq_iff_eq, beq_eq_false_iff_ne, bne_iff_ne, bne_eq_false_iff_eq, Bool.not_eq_true', Bool.not_eq_false', ne_eq, Classical.not_not, Bool.not_true, Bool.not_false, beqL_iff, beqL_ff, List.cons.injEq, and_true] at h) | skip) | ((conv => whnf) <;> (first | exact True.intro | apply br_rec | apply And.intro | apply CutE.goPl1 | apply CutE.goPl | apply EntP.k0 | apply EntP.k1 | apply EntP.k2 | apply EntP.k3 | apply EntP.k4 | apply EntP.k5 | apply EntP.k6 | apply DrawP.go | (apply AnyP.mk; kernel_rfl) | (refine AggP.go 2 rfl (by kernel_rfl) ?_) | (refine AggP.go 1 rfl (by kernel_rfl) ?_) | (refine AggP.go 3 rfl (by kernel_rfl) ?_) | (refine AggP.go 4 rfl (by kernel_rfl) ?_) | (refine AggP.go 5 rfl (by kernel_rfl) ?_) | (refine AggP.go 8 rfl (by kernel_rfl) ?_) | (refine AggP.go 11 rfl (by kernel_rfl) ?_) | apply CallP.own0 | apply CallP.own1 | apply CallP.own2 | apply CallP.own3 | apply CallP.nb | apply CutE.go0 | apply CutE.go7 | apply CutE.go6 | apply CutE.go5 | apply CutE.go4 | apply CutE.go3 | apply CutE.go2 | apply CutE.go1 | apply RoP.id | apply wrapS | (with_reducible exact lenNil) | apply Eq.refl)) | ((first | (with_reducible show rvEq _ _ _ _) | (with_reducible show svEq _ _ _ _) | (with_reducible show cellEq _ _ _ _) | (with_reducible show blkEq _ _ _)); conv => whnf))
    all_goals first
      | exact hl
      | exact hp
      | (exfalso; exact Bool.noConfusion (hr.symm.trans (show plR (s, b, m, l) = false by assumption)))
      | trace_state
end Go.Eng
