/- A pool: the reference's moves; a sign of life. -/
import Derived.Test.YtmjogckeaaaicaaPoE
set_option linter.unusedVariables false
set_option linter.unusedSimpArgs false
namespace Go.Eng
open Go Go.Proofs

def sRTake : FSpec := spec Pl (fun p => [.agg (plC p)]) (fun p => plR p = true ∧ SmallP p) fun p => .tup [rPl (takeP p).1, .c (.i (takeP p).2.1), .c (.i (takeP p).2.2)]
set_option maxHeartbeats 4000000 in
set_option maxRecDepth 100000 in
theorem rtake_ok : Meets Try.prog 35 sRTake := by
  refine meets_plain (gok_nil _) rfl [] (fn := Try.f35) rfl rfl rfl (by decide) fun ⟨s, b, m, l⟩ hl => ?_
  have hr : plR (s, b, m, l) = true := hl.1
  have hl : l.length ≤ 1000000 := hl.2
  have hw : IntKind.i64.wrap ((l.length : Int) - 1) = (l.length : Int) - 1 := wrap_i64 (by omega)
  by_cases h0 : l.length = 0
  · show bodyK Try.prog _ _ _ _ sRTake (s, b, m, l)
    have e1 : sRTake.res (s, b, m, l) = .tup [rPl pl0, .c (.i 0), .c (.i 14)] := by show RV.tup _ = _; rw [takeP_none hr h0]
    unfold bodyK
    rw [e1]
    clear e1
    repeat' (first | (intro h; first | exact Bool.noConfusion h | (guard_hyp h : true = true; clear h) | (guard_hyp h : false = false; clear h) | (simp only [decide_eq_true_eq, decide_eq_false_iff_not, beq_iff_eq, beq_eq_false_iff_ne, bne_iff_ne, bne_eq_false_iff_eq, Bool.not_eq_true', Bool.not_eq_false', ne_eq, Classical.not_not, Bool.not_true, Bool.not_false, beqL_iff, beqL_ff, List.cons.injEq, and_true] at h) | skip) | ((conv => whnf) <;> (first | exact True.intro | apply br_rec | apply And.intro | apply EntP.k0 | apply EntP.k1 | apply EntP.k2 | apply EntP.k3 | apply EntP.k4 | apply EntP.k5 | apply EntP.k6 | apply DrawP.go | (apply AnyP.mk; kernel_rfl) | (refine AggP.go 2 rfl (by kernel_rfl) ?_) | (refine AggP.go 1 rfl (by kernel_rfl) ?_) | (refine AggP.go 3 rfl (by kernel_rfl) ?_) | (refine AggP.go 4 rfl (by kernel_rfl) ?_) | (refine AggP.go 5 rfl (by kernel_rfl) ?_) | (refine AggP.go 8 rfl (by kernel_rfl) ?_) | (refine AggP.go 11 rfl (by kernel_rfl) ?_) | apply CallP.own0 | apply CallP.own1 | apply CallP.own2 | apply CallP.own3 | apply CallP.nb | apply CutE.go0 | apply CutE.go7 | apply CutE.go6 | apply CutE.go5 | apply CutE.go4 | apply CutE.go3 | apply CutE.go2 | apply CutE.go1 | apply RoP.id | apply wrapS | (with_reducible exact lenNil) | apply Eq.refl)) | ((first | (with_reducible show rvEq _ _ _ _) | (with_reducible show svEq _ _ _ _) | (with_reducible show cellEq _ _ _ _) | (with_reducible show blkEq _ _ _)); conv => whnf))
    all_goals first
      | omega
      | (exfalso; omega)
      | trace_state
  · show bodyK Try.prog _ _ _ _ sRTake (s, b, m, l)
    have e1 : sRTake.res (s, b, m, l) = .tup [rPl (s, b, m, l.take (l.length - 1)), .c (.i (l.getD (l.length - 1) 0)), .c (.i 0)] := by show RV.tup _ = _; rw [takeP_go hr h0]
    unfold bodyK
    rw [e1]
    clear e1
    have hn : ((l.length : Int) - 1).toNat = l.length - 1 := by omega
    repeat' (first | (intro h; first | exact Bool.noConfusion h | (guard_hyp h : true = true; clear h) | (guard_hyp h : false = false; clear h) | (simp only [decide_eq_true_eq, decide_eq_false_iff_not, beq_iff_eq, beq_eq_false_iff_ne, bne_iff_ne, bne_eq_false_iff_eq, Bool.not_eq_true', Bool.not_eq_false', ne_eq, Classical.not_not, Bool.not_true, Bool.not_false, beqL_iff, beqL_ff, List.cons.injEq, and_true] at h) | skip) | ((conv => whnf) <;> (first | exact True.intro | apply br_rec | apply And.intro | apply EntP.k0 | apply EntP.k1 | apply EntP.k2 | apply EntP.k3 | apply EntP.k4 | apply EntP.k5 | apply EntP.k6 | apply DrawP.go | (apply AnyP.mk; kernel_rfl) | (refine AggP.go 2 rfl (by kernel_rfl) ?_) | (refine AggP.go 1 rfl (by kernel_rfl) ?_) | (refine AggP.go 3 rfl (by kernel_rfl) ?_) | (refine AggP.go 4 rfl (by kernel_rfl) ?_) | (refine AggP.go 5 rfl (by kernel_rfl) ?_) | (refine AggP.go 8 rfl (by kernel_rfl) ?_) | (refine AggP.go 11 rfl (by kernel_rfl) ?_) | apply CallP.own0 | apply CallP.own1 | apply CallP.own2 | apply CallP.own3 | apply CallP.nb | apply CutE.go0 | apply CutE.go7 | apply CutE.go6 | apply CutE.go5 | apply CutE.go4 | apply CutE.go3 | apply CutE.go2 | apply CutE.go1 | apply RoP.id | apply wrapS | (with_reducible exact lenNil) | apply Eq.refl)) | ((first | (with_reducible show rvEq _ _ _ _) | (with_reducible show svEq _ _ _ _) | (with_reducible show cellEq _ _ _ _) | (with_reducible show blkEq _ _ _)); conv => whnf))
    all_goals try simp only [hw, hn] at *
    all_goals first
      | omega
      | (exfalso; omega)
      | rfl
      | (rw [List.length_take]; omega)
      | exact takeN_at (by assumption)
      | trace_state
def sRGive : FSpec := spec (Pl × Int) (fun (p, x) => [.agg (plC p), .i x]) (fun (p, _) => plR p = true ∧ p.2.2.2.length ≤ 100000) fun (p, x) => .tup [rPl (giveP p x).1, .c (.i (giveP p x).2)]
set_option maxHeartbeats 4000000 in
set_option maxRecDepth 100000 in
theorem rgive_ok : Meets Try.prog 36 sRGive := by
  refine meets_plain R1_ok rfl [] (fn := Try.f36) rfl rfl rfl (by decide) fun ⟨(s, b, m, l), x⟩ hl => ?_
  have hr : plR (s, b, m, l) = true := hl.1
  have hl : l.length ≤ 100000 := hl.2
  have hl' : l.length ≤ 1000000 := by omega
  have hp := plR_ok hr
  cases hb : (plB (s, b, m, l)).contains x with
  | false =>
    show bodyK Try.prog _ _ _ _ sRGive ((s, b, m, l), x)
    have e1 : sRGive.res ((s, b, m, l), x) = .tup [rPl pl0, .c (.i 3)] := by show RV.tup _ = _; rw [giveP_out hr hb]
    unfold bodyK
    rw [e1]
    clear e1
    repeat' (first | (intro h; first | exact Bool.noConfusion h | (guard_hyp h : true = true; clear h) | (guard_hyp h : false = false; clear h) | (simp only [decide_eq_true_eq, decide_eq_false_iff_not, beq_iff_eq, beq_eq_false_iff_ne, bne_iff_ne, bne_eq_false_iff_eq, Bool.not_eq_true', Bool.not_eq_false', ne_eq, Classical.not_not, Bool.not_true, Bool.not_false, beqL_iff, beqL_ff, List.cons.injEq, and_true] at h) | skip) | ((conv => whnf) <;> (first | exact True.intro | apply br_rec | apply And.intro | apply CutE.goPl1 | apply CutE.goPl | apply EntP.k0 | apply EntP.k1 | apply EntP.k2 | apply EntP.k3 | apply EntP.k4 | apply EntP.k5 | apply EntP.k6 | apply DrawP.go | (apply AnyP.mk; kernel_rfl) | (refine AggP.go 2 rfl (by kernel_rfl) ?_) | (refine AggP.go 1 rfl (by kernel_rfl) ?_) | (refine AggP.go 3 rfl (by kernel_rfl) ?_) | (refine AggP.go 4 rfl (by kernel_rfl) ?_) | (refine AggP.go 5 rfl (by kernel_rfl) ?_) | (refine AggP.go 8 rfl (by kernel_rfl) ?_) | (refine AggP.go 11 rfl (by kernel_rfl) ?_) | apply CallP.own0 | apply CallP.own1 | apply CallP.own2 | apply CallP.own3 | apply CallP.nb | apply CutE.go0 | apply CutE.go7 | apply CutE.go6 | apply CutE.go5 | apply CutE.go4 | apply CutE.go3 | apply CutE.go2 | apply CutE.go1 | apply RoP.id | apply wrapS | (with_reducible exact lenNil) | apply Eq.refl)) | ((first | (with_reducible show rvEq _ _ _ _) | (with_reducible show svEq _ _ _ _) | (with_reducible show cellEq _ _ _ _) | (with_reducible show blkEq _ _ _)); conv => whnf))
    all_goals first
      | exact hl'
      | exact hp
      | (exfalso; exact Bool.noConfusion (hb.symm.trans (show (plB (s, b, m, l)).contains x = true by assumption)))
      | trace_state
  | true =>
    cases hc : l.contains x with
    | true =>
      show bodyK Try.prog _ _ _ _ sRGive ((s, b, m, l), x)
      have e1 : sRGive.res ((s, b, m, l), x) = .tup [rPl pl0, .c (.i 5)] := by show RV.tup _ = _; rw [giveP_twice hr hb hc]
      unfold bodyK
      rw [e1]
      clear e1
      repeat' (first | (intro h; first | exact Bool.noConfusion h | (guard_hyp h : true = true; clear h) | (guard_hyp h : false = false; clear h) | (simp only [decide_eq_true_eq, decide_eq_false_iff_not, beq_iff_eq, beq_eq_false_iff_ne, bne_iff_ne, bne_eq_false_iff_eq, Bool.not_eq_true', Bool.not_eq_false', ne_eq, Classical.not_not, Bool.not_true, Bool.not_false, beqL_iff, beqL_ff, List.cons.injEq, and_true] at h) | skip) | ((conv => whnf) <;> (first | exact True.intro | apply br_rec | apply And.intro | apply CutE.goPl1 | apply CutE.goPl | apply EntP.k0 | apply EntP.k1 | apply EntP.k2 | apply EntP.k3 | apply EntP.k4 | apply EntP.k5 | apply EntP.k6 | apply DrawP.go | (apply AnyP.mk; kernel_rfl) | (refine AggP.go 2 rfl (by kernel_rfl) ?_) | (refine AggP.go 1 rfl (by kernel_rfl) ?_) | (refine AggP.go 3 rfl (by kernel_rfl) ?_) | (refine AggP.go 4 rfl (by kernel_rfl) ?_) | (refine AggP.go 5 rfl (by kernel_rfl) ?_) | (refine AggP.go 8 rfl (by kernel_rfl) ?_) | (refine AggP.go 11 rfl (by kernel_rfl) ?_) | apply CallP.own0 | apply CallP.own1 | apply CallP.own2 | apply CallP.own3 | apply CallP.nb | apply CutE.go0 | apply CutE.go7 | apply CutE.go6 | apply CutE.go5 | apply CutE.go4 | apply CutE.go3 | apply CutE.go2 | apply CutE.go1 | apply RoP.id | apply wrapS | (with_reducible exact lenNil) | apply Eq.refl)) | ((first | (with_reducible show rvEq _ _ _ _) | (with_reducible show svEq _ _ _ _) | (with_reducible show cellEq _ _ _ _) | (with_reducible show blkEq _ _ _)); conv => whnf))
      all_goals first
        | exact hl'
        | exact hp
        | (exfalso; exact Bool.noConfusion (hb.symm.trans (show (plB (s, b, m, l)).contains x = false by assumption)))
        | (exfalso; exact Bool.noConfusion (hc.symm.trans (show l.contains x = false by assumption)))
        | trace_state
    | false =>
      show bodyK Try.prog _ _ _ _ sRGive ((s, b, m, l), x)
      have e1 : sRGive.res ((s, b, m, l), x) = .tup [rPl (s, b, m, l ++ [x]), .c (.i 0)] := by show RV.tup _ = _; rw [giveP_go hr hb hc]
      unfold bodyK
      rw [e1]
      clear e1
      repeat' (first | (intro h; first | exact Bool.noConfusion h | (guard_hyp h : true = true; clear h) | (guard_hyp h : false = false; clear h) | (simp only [decide_eq_true_eq, decide_eq_false_iff_not, beq_iff_eq, beq_eq_false_iff_ne, bne_iff_ne, bne_eq_false_iff_eq, Bool.not_eq_true', Bool.not_eq_false', ne_eq, Classical.not_not, Bool.not_true, Bool.not_false, beqL_iff, beqL_ff, List.cons.injEq, and_true] at h) | skip) | ((conv => whnf) <;> (first | exact True.intro | apply br_rec | apply And.intro | apply CutE.goPl1 | apply CutE.goPl | apply EntP.k0 | apply EntP.k1 | apply EntP.k2 | apply EntP.k3 | apply EntP.k4 | apply EntP.k5 | apply EntP.k6 | apply DrawP.go | (apply AnyP.mk; kernel_rfl) | (refine AggP.go 2 rfl (by kernel_rfl) ?_) | (refine AggP.go 1 rfl (by kernel_rfl) ?_) | (refine AggP.go 3 rfl (by kernel_rfl) ?_) | (refine AggP.go 4 rfl (by kernel_rfl) ?_) | (refine AggP.go 5 rfl (by kernel_rfl) ?_) | (refine AggP.go 8 rfl (by kernel_rfl) ?_) | (refine AggP.go 11 rfl (by kernel_rfl) ?_) | apply CallP.own0 | apply CallP.own1 | apply CallP.own2 | apply CallP.own3 | apply CallP.nb | apply CutE.go0 | apply CutE.go7 | apply CutE.go6 | apply CutE.go5 | apply CutE.go4 | apply CutE.go3 | apply CutE.go2 | apply CutE.go1 | apply RoP.id | apply wrapS | (with_reducible exact lenNil) | apply Eq.refl)) | ((first | (with_reducible show rvEq _ _ _ _) | (with_reducible show svEq _ _ _ _) | (with_reducible show cellEq _ _ _ _) | (with_reducible show blkEq _ _ _)); conv => whnf))
      all_goals first
        | exact hl'
        | exact hp
        | omega
        | (exfalso; exact Bool.noConfusion (hb.symm.trans (show (plB (s, b, m, l)).contains x = false by assumption)))
        | (exfalso; exact Bool.noConfusion (hc.symm.trans (show l.contains x = true by assumption)))
        | (show (0 + l.length) * 8 ≤ _; omega)
        | (show (0 + l.length + 1) * 8 ≤ _; omega)
        | (rw [List.length_append, Nat.zero_add]; rfl)
        | (show (l ++ [x]).length = 0 + l.length + 1; rw [List.length_append, Nat.zero_add]; rfl)
        | (have e0 : catG 0 (litG (Try.prog.types[3].size) []) (slG encI l) = slG encI l := funext fun i => funext fun t => by simp [catG]
           rw [e0, Nat.zero_add]
           exact slG_snoc1 rfl (by assumption) (by assumption) rfl)
        | trace_state
def sRHeld : FSpec := spec Pl (fun p => [.agg (plC p)]) (fun p => plR p = true ∧ SmallP p) fun p => .c (intsS (heldF p p.2.2.2))
set_option maxHeartbeats 4000000 in
set_option maxRecDepth 100000 in
theorem rheld_ok : Meets Try.prog 37 sRHeld := by
  refine meets_plain R1_ok rfl [] (fn := Try.f37) rfl rfl rfl (by decide) fun ⟨s, b, m, l⟩ hl => ?_
  have hr : plR (s, b, m, l) = true := hl.1
  have hl : l.length ≤ 1000000 := hl.2
  have hp := plR_ok hr
  have hm : 0 ≤ m := hp.m0
  have hm' : m ≤ 16 := hp.m16
  repeat' (first | (intro h; first | exact Bool.noConfusion h | (guard_hyp h : true = true; clear h) | (guard_hyp h : false = false; clear h) | (simp only [decide_eq_true_eq, decide_eq_false_iff_not, beq_iff_eq, beq_eq_false_iff_ne, bne_iff_ne, bne_eq_false_iff_eq, Bool.not_eq_true', Bool.not_eq_false', ne_eq, Classical.not_not, Bool.not_true, Bool.not_false, beqL_iff, beqL_ff, List.cons.injEq, and_true] at h) | skip) | ((conv => whnf) <;> (first | exact True.intro | apply br_rec | apply And.intro | apply EntP.k0 | apply EntP.k1 | apply EntP.k2 | apply EntP.k3 | apply EntP.k4 | apply EntP.k5 | apply EntP.k6 | apply DrawP.go | (apply AnyP.mk; kernel_rfl) | (refine AggP.go 2 rfl (by kernel_rfl) ?_) | (refine AggP.go 1 rfl (by kernel_rfl) ?_) | (refine AggP.go 3 rfl (by kernel_rfl) ?_) | (refine AggP.go 4 rfl (by kernel_rfl) ?_) | (refine AggP.go 5 rfl (by kernel_rfl) ?_) | (refine AggP.go 8 rfl (by kernel_rfl) ?_) | (refine AggP.go 11 rfl (by kernel_rfl) ?_) | apply CallP.own0 | apply CallP.own1 | apply CallP.own2 | apply CallP.own3 | apply CallP.nb | apply CutE.go0 | apply CutE.go7 | apply CutE.go6 | apply CutE.go5 | apply CutE.go4 | apply CutE.go3 | apply CutE.go2 | apply CutE.go1 | apply RoP.id | apply wrapS | (with_reducible exact lenNil) | apply Eq.refl)) | ((first | (with_reducible show rvEq _ _ _ _) | (with_reducible show svEq _ _ _ _) | (with_reducible show cellEq _ _ _ _) | (with_reducible show blkEq _ _ _)); conv => whnf))
  apply LoopP.up (G := Nat × List Int) (fun g => g.1 ≤ m.toNat ∧ g.2 = plW (s, b, m, l) l g.1) [1, 3, 4] (fun g => [(4, .i g.1), (3, .c (.osl 1))]) (fun g => [(1, .slc 3 1 g.2.length (slG encI g.2))]) 2 (fun g => m.toNat - g.1)
  apply And.intro
  · refine CutE.at (0, []) ?_
    repeat' (first | (intro h; first | exact Bool.noConfusion h | (guard_hyp h : true = true; clear h) | (guard_hyp h : false = false; clear h) | (simp only [decide_eq_true_eq, decide_eq_false_iff_not, beq_iff_eq, beq_eq_false_iff_ne, bne_iff_ne, bne_eq_false_iff_eq, Bool.not_eq_true', Bool.not_eq_false', ne_eq, Classical.not_not, Bool.not_true, Bool.not_false, beqL_iff, beqL_ff, List.cons.injEq, and_true] at h) | skip) | ((conv => whnf) <;> (first | exact True.intro | apply br_rec | apply And.intro | apply EntP.k0 | apply EntP.k1 | apply EntP.k2 | apply EntP.k3 | apply EntP.k4 | apply EntP.k5 | apply EntP.k6 | apply DrawP.go | (apply AnyP.mk; kernel_rfl) | (refine AggP.go 2 rfl (by kernel_rfl) ?_) | (refine AggP.go 1 rfl (by kernel_rfl) ?_) | (refine AggP.go 3 rfl (by kernel_rfl) ?_) | (refine AggP.go 4 rfl (by kernel_rfl) ?_) | (refine AggP.go 5 rfl (by kernel_rfl) ?_) | (refine AggP.go 8 rfl (by kernel_rfl) ?_) | (refine AggP.go 11 rfl (by kernel_rfl) ?_) | apply CallP.own0 | apply CallP.own1 | apply CallP.own2 | apply CallP.own3 | apply CallP.nb | apply CutE.go0 | apply CutE.go7 | apply CutE.go6 | apply CutE.go5 | apply CutE.go4 | apply CutE.go3 | apply CutE.go2 | apply CutE.go1 | apply RoP.id | apply wrapS | (with_reducible exact lenNil) | apply Eq.refl)) | ((first | (with_reducible show rvEq _ _ _ _) | (with_reducible show svEq _ _ _ _) | (with_reducible show cellEq _ _ _ _) | (with_reducible show blkEq _ _ _)); conv => whnf))
    all_goals first
      | (rename_i i hi t; exact absurd hi (Nat.not_lt_zero _))
      | omega
      | rfl
      | trace_state
  rintro ⟨k, L⟩ ⟨hk, hL⟩
  have hk : k ≤ m.toNat := hk
  have hL : L = plW (s, b, m, l) l k := hL
  have hw : IntKind.i64.wrap (b + IntKind.i64.wrap ((k : Int) * s)) = b + (k : Int) * s := at_wrap hp (k := k) (by omega)
  have hlen := plW_len (s, b, m, l) l k
  rw [← hL] at hlen
  have hdone : k = m.toNat → L = heldF (s, b, m, l) l := fun e => by
    have : k = (s, b, m, l).2.2.1.toNat := e
    rw [hL, this, plW_all]; rfl
  cases hc : l.contains (b + (k : Int) * s) with
  | true =>
    have e : k < m.toNat → L = plW (s, b, m, l) l (k + 1) := fun h => by rw [plW_in (p := (s, b, m, l)) h hc]; exact hL
    repeat' (first | (intro h; first | exact Bool.noConfusion h | (guard_hyp h : true = true; clear h) | (guard_hyp h : false = false; clear h) | (simp only [decide_eq_true_eq, decide_eq_false_iff_not, beq_iff_eq, beq_eq_false_iff_ne, bne_iff_ne, bne_eq_false_iff_eq, Bool.not_eq_true', Bool.not_eq_false', ne_eq, Classical.not_not, Bool.not_true, Bool.not_false, beqL_iff, beqL_ff, List.cons.injEq, and_true] at h) | skip) | ((conv => whnf) <;> (first | exact True.intro | apply br_rec | apply And.intro | refine CutE.at (A := Nat × List Int) (k + 1, L) ?_ | apply EntP.k0 | apply EntP.k1 | apply EntP.k2 | apply EntP.k3 | apply EntP.k4 | apply EntP.k5 | apply EntP.k6 | apply DrawP.go | (apply AnyP.mk; kernel_rfl) | (refine AggP.go 2 rfl (by kernel_rfl) ?_) | (refine AggP.go 1 rfl (by kernel_rfl) ?_) | (refine AggP.go 3 rfl (by kernel_rfl) ?_) | (refine AggP.go 4 rfl (by kernel_rfl) ?_) | (refine AggP.go 5 rfl (by kernel_rfl) ?_) | (refine AggP.go 8 rfl (by kernel_rfl) ?_) | (refine AggP.go 11 rfl (by kernel_rfl) ?_) | apply CallP.own0 | apply CallP.own1 | apply CallP.own2 | apply CallP.own3 | apply CallP.nb | apply CutE.go0 | apply CutE.go7 | apply CutE.go6 | apply CutE.go5 | apply CutE.go4 | apply CutE.go3 | apply CutE.go2 | apply CutE.go1 | apply RoP.id | apply wrapS | (with_reducible exact lenNil) | apply Eq.refl)) | ((first | (with_reducible show rvEq _ _ _ _) | (with_reducible show svEq _ _ _ _) | (with_reducible show cellEq _ _ _ _) | (with_reducible show blkEq _ _ _)); conv => whnf))
    all_goals try simp only [hw] at *
    all_goals first
      | omega
      | exact hl
      | exact e (by omega)
      | (show k + 1 ≤ m.toNat; omega)
      | (show m.toNat - (k + 1) < m.toNat - k; omega)
      | (exfalso; exact Bool.noConfusion (hc.symm.trans (show l.contains (b + (k : Int) * s) = false by assumption)))
      | (rw [← hdone (by omega)]; done)
      | (show (heldF (s, b, m, l) l).length = L.length; rw [← hdone (by omega)])
      | (show slG encI (heldF (s, b, m, l) l) _ _ = slG encI L _ _; rw [← hdone (by omega)])
      | trace_state
  | false =>
    have e : k < m.toNat → L ++ [b + (k : Int) * s] = plW (s, b, m, l) l (k + 1) := fun h => by rw [plW_out (p := (s, b, m, l)) h hc, ← hL]
    repeat' (first | (intro h; first | exact Bool.noConfusion h | (guard_hyp h : true = true; clear h) | (guard_hyp h : false = false; clear h) | (simp only [decide_eq_true_eq, decide_eq_false_iff_not, beq_iff_eq, beq_eq_false_iff_ne, bne_iff_ne, bne_eq_false_iff_eq, Bool.not_eq_true', Bool.not_eq_false', ne_eq, Classical.not_not, Bool.not_true, Bool.not_false, beqL_iff, beqL_ff, List.cons.injEq, and_true] at h) | skip) | ((conv => whnf) <;> (first | exact True.intro | apply br_rec | apply And.intro | refine CutE.at (A := Nat × List Int) (k + 1, L ++ [b + (k : Int) * s]) ?_ | apply EntP.k0 | apply EntP.k1 | apply EntP.k2 | apply EntP.k3 | apply EntP.k4 | apply EntP.k5 | apply EntP.k6 | apply DrawP.go | (apply AnyP.mk; kernel_rfl) | (refine AggP.go 2 rfl (by kernel_rfl) ?_) | (refine AggP.go 1 rfl (by kernel_rfl) ?_) | (refine AggP.go 3 rfl (by kernel_rfl) ?_) | (refine AggP.go 4 rfl (by kernel_rfl) ?_) | (refine AggP.go 5 rfl (by kernel_rfl) ?_) | (refine AggP.go 8 rfl (by kernel_rfl) ?_) | (refine AggP.go 11 rfl (by kernel_rfl) ?_) | apply CallP.own0 | apply CallP.own1 | apply CallP.own2 | apply CallP.own3 | apply CallP.nb | apply CutE.go0 | apply CutE.go7 | apply CutE.go6 | apply CutE.go5 | apply CutE.go4 | apply CutE.go3 | apply CutE.go2 | apply CutE.go1 | apply RoP.id | apply wrapS | (with_reducible exact lenNil) | apply Eq.refl)) | ((first | (with_reducible show rvEq _ _ _ _) | (with_reducible show svEq _ _ _ _) | (with_reducible show cellEq _ _ _ _) | (with_reducible show blkEq _ _ _)); conv => whnf))
    all_goals try simp only [hw] at *
    all_goals first
      | omega
      | exact hl
      | exact e (by omega)
      | (show k + 1 ≤ m.toNat; omega)
      | (show m.toNat - (k + 1) < m.toNat - k; omega)
      | (exfalso; exact Bool.noConfusion (hc.symm.trans (show l.contains (b + (k : Int) * s) = true by assumption)))
      | (show (L.length + 1) * 8 ≤ _; omega)
      | (rw [List.length_append]; rfl)
      | exact slG_snoc1 rfl (by assumption) (by assumption) rfl
      | (show (heldF (s, b, m, l) l).length = L.length; rw [← hdone (by omega)])
      | (show slG encI (heldF (s, b, m, l) l) _ _ = slG encI L _ _; rw [← hdone (by omega)])
      | trace_state
def sIntsQ : FSpec := spec (List Int × List Int) (fun (a, b) => [.c (intsS a), .c (intsS b)]) (fun (a, b) => a.length ≤ 1000000) fun (a, b) => .b (decide (a = b))
theorem eq_of_upG {α : Type} [Inhabited α] {a b : List α} (h : a.length = b.length) {k : Nat} (hk : a.length ≤ k) (hu : Up k fun i => a.getD i default = b.getD i default) : a = b := by
  apply List.ext_getElem h
  intro i h1 h2
  have := hu.get i (by omega)
  simpa [List.getD_eq_getElem?_getD, List.getElem?_eq_getElem h1, List.getElem?_eq_getElem h2] using this
set_option maxHeartbeats 4000000 in
set_option maxRecDepth 100000 in
theorem ints_ok : Meets Try.prog 20 sIntsQ := by
  refine meets_plain (gok_nil _) rfl [] (fn := Try.f20) rfl rfl rfl (by decide) fun ⟨a, b⟩ hl => ?_
  have hl : a.length ≤ 1000000 := hl
  repeat' (first | (intro h; first | exact Bool.noConfusion h | (guard_hyp h : true = true; clear h) | (guard_hyp h : false = false; clear h) | (simp only [decide_eq_true_eq, decide_eq_false_iff_not, beq_iff_eq, beq_eq_false_iff_ne, bne_iff_ne, bne_eq_false_iff_eq, Bool.not_eq_true', Bool.not_eq_false', ne_eq, Classical.not_not, Bool.not_true, Bool.not_false, beqL_iff, beqL_ff, List.cons.injEq, and_true] at h) | skip) | ((conv => whnf) <;> (first | exact True.intro | apply br_rec | apply And.intro | apply EntP.k0 | apply EntP.k1 | apply EntP.k2 | apply EntP.k3 | apply EntP.k4 | apply EntP.k5 | apply EntP.k6 | apply DrawP.go | (apply AnyP.mk; kernel_rfl) | (refine AggP.go 2 rfl (by kernel_rfl) ?_) | (refine AggP.go 1 rfl (by kernel_rfl) ?_) | (refine AggP.go 3 rfl (by kernel_rfl) ?_) | (refine AggP.go 4 rfl (by kernel_rfl) ?_) | (refine AggP.go 5 rfl (by kernel_rfl) ?_) | (refine AggP.go 8 rfl (by kernel_rfl) ?_) | (refine AggP.go 11 rfl (by kernel_rfl) ?_) | apply CallP.own0 | apply CallP.own1 | apply CallP.own2 | apply CallP.own3 | apply CallP.nb | apply CutE.go0 | apply CutE.go7 | apply CutE.go6 | apply CutE.go5 | apply CutE.go4 | apply CutE.go3 | apply CutE.go2 | apply CutE.go1 | apply RoP.id | apply wrapS | (with_reducible exact lenNil) | apply Eq.refl)) | ((first | (with_reducible show rvEq _ _ _ _) | (with_reducible show svEq _ _ _ _) | (with_reducible show cellEq _ _ _ _) | (with_reducible show blkEq _ _ _)); conv => whnf))
  · simp only [false_eq_decide_iff, decide_eq_false_iff_not]
    rintro rfl
    exact absurd rfl (by assumption)
  apply LoopP.up (G := Nat) (fun k => k ≤ a.length ∧ Up k fun i => a.getD i default = b.getD i default) [0, 1, 12, 13] (fun k => [(13, .i k)]) (fun _ => []) 0 (fun k => a.length - k)
  apply And.intro
  · refine CutE.at 0 ?_
    repeat' (first | (intro h; first | exact Bool.noConfusion h | (guard_hyp h : true = true; clear h) | (guard_hyp h : false = false; clear h) | (simp only [decide_eq_true_eq, decide_eq_false_iff_not, beq_iff_eq, beq_eq_false_iff_ne, bne_iff_ne, bne_eq_false_iff_eq, Bool.not_eq_true', Bool.not_eq_false', ne_eq, Classical.not_not, Bool.not_true, Bool.not_false, beqL_iff, beqL_ff, List.cons.injEq, and_true] at h) | skip) | ((conv => whnf) <;> (first | exact True.intro | apply br_rec | apply And.intro | apply EntP.k0 | apply EntP.k1 | apply EntP.k2 | apply EntP.k3 | apply EntP.k4 | apply EntP.k5 | apply EntP.k6 | apply DrawP.go | (apply AnyP.mk; kernel_rfl) | (refine AggP.go 2 rfl (by kernel_rfl) ?_) | (refine AggP.go 1 rfl (by kernel_rfl) ?_) | (refine AggP.go 3 rfl (by kernel_rfl) ?_) | (refine AggP.go 4 rfl (by kernel_rfl) ?_) | (refine AggP.go 5 rfl (by kernel_rfl) ?_) | (refine AggP.go 8 rfl (by kernel_rfl) ?_) | (refine AggP.go 11 rfl (by kernel_rfl) ?_) | apply CallP.own0 | apply CallP.own1 | apply CallP.own2 | apply CallP.own3 | apply CallP.nb | apply CutE.go0 | apply CutE.go7 | apply CutE.go6 | apply CutE.go5 | apply CutE.go4 | apply CutE.go3 | apply CutE.go2 | apply CutE.go1 | apply RoP.id | apply wrapS | (with_reducible exact lenNil) | apply Eq.refl)) | ((first | (with_reducible show rvEq _ _ _ _) | (with_reducible show svEq _ _ _ _) | (with_reducible show cellEq _ _ _ _) | (with_reducible show blkEq _ _ _)); conv => whnf))
    all_goals try simp only [Int.toNat_natCast, Int.toNat_zero, ge_iff_le, gt_iff_lt, Int.ofNat_le, Int.ofNat_lt, Int.ofNat_inj] at *
    all_goals first
      | omega
      | (dsimp only; omega)
      | assumption
      | exact Up.zero _
      | (show ((8 : Nat) : Int) * _ ≤ _; omega)
      | (show _ * (8 : Nat) ≤ _; omega)
      | (show _ * (16 : Nat) ≤ _; omega)
      | (show _ * (24 : Nat) ≤ _; omega)
      | trace_state
  · intro k ⟨hk, hu⟩
    repeat' (first | (intro h; first | exact Bool.noConfusion h | (guard_hyp h : true = true; clear h) | (guard_hyp h : false = false; clear h) | (simp only [decide_eq_true_eq, decide_eq_false_iff_not, beq_iff_eq, beq_eq_false_iff_ne, bne_iff_ne, bne_eq_false_iff_eq, Bool.not_eq_true', Bool.not_eq_false', ne_eq, Classical.not_not, Bool.not_true, Bool.not_false, beqL_iff, beqL_ff, List.cons.injEq, and_true] at h) | skip) | ((conv => whnf) <;> (first | exact True.intro | apply br_rec | apply And.intro | refine CutE.at (A := Nat) (k + 1) ?_ | apply EntP.k0 | apply EntP.k1 | apply EntP.k2 | apply EntP.k3 | apply EntP.k4 | apply EntP.k5 | apply EntP.k6 | apply DrawP.go | (apply AnyP.mk; kernel_rfl) | (refine AggP.go 2 rfl (by kernel_rfl) ?_) | (refine AggP.go 1 rfl (by kernel_rfl) ?_) | (refine AggP.go 3 rfl (by kernel_rfl) ?_) | (refine AggP.go 4 rfl (by kernel_rfl) ?_) | (refine AggP.go 5 rfl (by kernel_rfl) ?_) | (refine AggP.go 8 rfl (by kernel_rfl) ?_) | (refine AggP.go 11 rfl (by kernel_rfl) ?_) | apply CallP.own0 | apply CallP.own1 | apply CallP.own2 | apply CallP.own3 | apply CallP.nb | apply CutE.go0 | apply CutE.go7 | apply CutE.go6 | apply CutE.go5 | apply CutE.go4 | apply CutE.go3 | apply CutE.go2 | apply CutE.go1 | apply RoP.id | apply wrapS | (with_reducible exact lenNil) | apply Eq.refl)) | ((first | (with_reducible show rvEq _ _ _ _) | (with_reducible show svEq _ _ _ _) | (with_reducible show cellEq _ _ _ _) | (with_reducible show blkEq _ _ _)); conv => whnf))
    all_goals try simp only [Int.toNat_natCast, Int.toNat_zero, ge_iff_le, gt_iff_lt, Int.ofNat_le, Int.ofNat_lt, Int.ofNat_inj] at *
    all_goals first
      | omega
      | (dsimp only; omega)
      | assumption
      | exact Up.zero _
      | (show ((8 : Nat) : Int) * _ ≤ _; omega)
      | (show _ * (8 : Nat) ≤ _; omega)
      | (show _ * (16 : Nat) ≤ _; omega)
      | (show _ * (24 : Nat) ≤ _; omega)
      | exact hu.succ (by assumption)
      | (apply decide_eq_false; rintro rfl; exact absurd rfl (by assumption))
      | exact decide_eq_true (eq_of_upG (by omega) (k := k) (by omega) hu)
      | trace_state
def plEq (p q : Pl) : Bool := decide (p = q)
theorem plEq_self (p : Pl) : plEq p p = true := decide_eq_true rfl
def sPSame : FSpec := spec (Pl × Pl) (fun (p, q) => [.agg (plC p), .agg (plC q)]) (fun (p, _) => SmallP p) fun (p, q) => .b (plEq p q)
theorem sIntsQ_ok : GOK Try.prog (tab [(20, sIntsQ)]) := gok_cons ints_ok (gok_nil _)
set_option maxHeartbeats 4000000 in
set_option maxRecDepth 100000 in
theorem psame_ok : Meets Try.prog 30 sPSame := by
  refine meets_plain sIntsQ_ok rfl [] (fn := Try.f30) rfl rfl rfl (by decide) fun ⟨(s, b, m, l), s', b', m', l'⟩ hl => ?_
  have hl : l.length ≤ 1000000 := hl
  repeat' (first | (intro h; first | exact Bool.noConfusion h | (guard_hyp h : true = true; clear h) | (guard_hyp h : false = false; clear h) | (simp only [decide_eq_true_eq, decide_eq_false_iff_not, beq_iff_eq, beq_eq_false_iff_ne, bne_iff_ne, bne_eq_false_iff_eq, Bool.not_eq_true', Bool.not_eq_false', ne_eq, Classical.not_not, Bool.not_true, Bool.not_false, beqL_iff, beqL_ff, List.cons.injEq, and_true] at h) | skip) | ((conv => whnf) <;> (first | exact True.intro | apply br_rec | apply And.intro | apply EntP.k0 | apply EntP.k1 | apply EntP.k2 | apply EntP.k3 | apply EntP.k4 | apply EntP.k5 | apply EntP.k6 | apply DrawP.go | (apply AnyP.mk; kernel_rfl) | (refine AggP.go 2 rfl (by kernel_rfl) ?_) | (refine AggP.go 1 rfl (by kernel_rfl) ?_) | (refine AggP.go 3 rfl (by kernel_rfl) ?_) | (refine AggP.go 4 rfl (by kernel_rfl) ?_) | (refine AggP.go 5 rfl (by kernel_rfl) ?_) | (refine AggP.go 8 rfl (by kernel_rfl) ?_) | (refine AggP.go 11 rfl (by kernel_rfl) ?_) | apply CallP.own0 | apply CallP.own1 | apply CallP.own2 | apply CallP.own3 | apply CallP.nb | apply CutE.go0 | apply CutE.go7 | apply CutE.go6 | apply CutE.go5 | apply CutE.go4 | apply CutE.go3 | apply CutE.go2 | apply CutE.go1 | apply RoP.id | apply wrapS | (with_reducible exact lenNil) | apply Eq.refl)) | ((first | (with_reducible show rvEq _ _ _ _) | (with_reducible show svEq _ _ _ _) | (with_reducible show cellEq _ _ _ _) | (with_reducible show blkEq _ _ _)); conv => whnf))
  all_goals first
    | exact hl
    | (show plEq (s, b, m, l) (s', b', m', l') = false
       apply decide_eq_false
       intro e
       obtain ⟨e1, e2⟩ := Prod.mk.inj e
       obtain ⟨e2, e3⟩ := Prod.mk.inj e2
       obtain ⟨e3, e4⟩ := Prod.mk.inj e3
       contradiction)
    | (show plEq (s, b, m, l) (s', b', m', l') = decide (l = l')
       unfold plEq
       congr 1
       apply propext
       constructor
       · intro e
         obtain ⟨e1, e2⟩ := Prod.mk.inj e
         obtain ⟨e2, e3⟩ := Prod.mk.inj e2
         exact (Prod.mk.inj e3).2
       · rintro rfl
         simp_all)
    | trace_state
def few12 (p : Pl) : Pl := (p.1, p.2.1, p.2.2.1, p.2.2.2.take 20)
def sFew12 : FSpec := spec Pl (fun p => [.agg (plC p)]) (fun _ => True) fun p => .s (rPl (few12 p))
set_option maxHeartbeats 4000000 in
set_option maxRecDepth 100000 in
theorem few12_ok : Meets Try.prog 24 sFew12 := by
  refine meets_plain (gok_nil _) rfl [] (fn := Try.f24) rfl rfl rfl (by decide) fun ⟨s, b, m, l⟩ _ => ?_
  repeat' (first | (intro h; first | exact Bool.noConfusion h | (guard_hyp h : true = true; clear h) | (guard_hyp h : false = false; clear h) | (simp only [decide_eq_true_eq, decide_eq_false_iff_not, beq_iff_eq, beq_eq_false_iff_ne, bne_iff_ne, bne_eq_false_iff_eq, Bool.not_eq_true', Bool.not_eq_false', ne_eq, Classical.not_not, Bool.not_true, Bool.not_false, beqL_iff, beqL_ff, List.cons.injEq, and_true] at h) | skip) | ((conv => whnf) <;> (first | exact True.intro | apply br_rec | apply And.intro | apply EntP.k0 | apply EntP.k1 | apply EntP.k2 | apply EntP.k3 | apply EntP.k4 | apply EntP.k5 | apply EntP.k6 | apply DrawP.go | (apply AnyP.mk; kernel_rfl) | (refine AggP.go 2 rfl (by kernel_rfl) ?_) | (refine AggP.go 1 rfl (by kernel_rfl) ?_) | (refine AggP.go 3 rfl (by kernel_rfl) ?_) | (refine AggP.go 4 rfl (by kernel_rfl) ?_) | (refine AggP.go 5 rfl (by kernel_rfl) ?_) | (refine AggP.go 8 rfl (by kernel_rfl) ?_) | (refine AggP.go 11 rfl (by kernel_rfl) ?_) | apply CallP.own0 | apply CallP.own1 | apply CallP.own2 | apply CallP.own3 | apply CallP.nb | apply CutE.go0 | apply CutE.go7 | apply CutE.go6 | apply CutE.go5 | apply CutE.go4 | apply CutE.go3 | apply CutE.go2 | apply CutE.go1 | apply RoP.id | apply wrapS | (with_reducible exact lenNil) | apply Eq.refl)) | ((first | (with_reducible show rvEq _ _ _ _) | (with_reducible show svEq _ _ _ _) | (with_reducible show cellEq _ _ _ _) | (with_reducible show blkEq _ _ _)); conv => whnf))
  all_goals first
    | omega
    | exact take_lo (m := 20)
    | exact take_hi (m := 20)
    | exact take_len (m := 20)
    | (apply take_cell (m := 20); assumption)
    | trace_state
def sAlive12 : FSpec := spec Unit (fun _ => []) (fun _ => True) fun _ => .b true
def P5 : List (Nat × FSpec) := (25, sNew) :: (33, sTake) :: (32, sGive) :: (34, sHeld) :: P4
theorem P5_ok : GOK Try.prog (tab P5) := gok_cons new_ok (gok_cons take_ok (gok_cons give_ok (gok_cons held_ok P4_ok)))
set_option maxHeartbeats 4000000 in
set_option maxRecDepth 100000 in
theorem alive12_ok : Meets Try.prog 28 sAlive12 := by
  refine meets_plain P5_ok rfl [] (fn := Try.f28) rfl rfl rfl (by decide) fun _ _ => ?_
  have e1 : newP 2 10 3 = ((2, 10, 3, [14, 12, 10]), 0) := by decide
  have e2 : takeP (2, 10, 3, [14, 12, 10]) = ((2, 10, 3, [14, 12]), 10, 0) := by decide
  repeat' (first | (intro h; first | exact Bool.noConfusion h | (guard_hyp h : true = true; clear h) | (guard_hyp h : false = false; clear h) | (simp only [decide_eq_true_eq, decide_eq_false_iff_not, beq_iff_eq, beq_eq_false_iff_ne, bne_iff_ne, bne_eq_false_iff_eq, Bool.not_eq_true', Bool.not_eq_false', ne_eq, Classical.not_not, Bool.not_true, Bool.not_false, beqL_iff, beqL_ff, List.cons.injEq, and_true] at h) | skip) | ((conv => whnf) <;> (first | exact True.intro | apply br_rec | apply And.intro | apply CutE.goPl | apply EntP.k0 | apply EntP.k1 | apply EntP.k2 | apply EntP.k3 | apply EntP.k4 | apply EntP.k5 | apply EntP.k6 | apply DrawP.go | (apply AnyP.mk; kernel_rfl) | (refine AggP.go 2 rfl (by kernel_rfl) ?_) | (refine AggP.go 1 rfl (by kernel_rfl) ?_) | (refine AggP.go 3 rfl (by kernel_rfl) ?_) | (refine AggP.go 4 rfl (by kernel_rfl) ?_) | (refine AggP.go 5 rfl (by kernel_rfl) ?_) | (refine AggP.go 8 rfl (by kernel_rfl) ?_) | (refine AggP.go 11 rfl (by kernel_rfl) ?_) | apply CallP.own0 | apply CallP.own1 | apply CallP.own2 | apply CallP.own3 | apply CallP.nb | apply CutE.go0 | apply CutE.go7 | apply CutE.go6 | apply CutE.go5 | apply CutE.go4 | apply CutE.go3 | apply CutE.go2 | apply CutE.go1 | apply RoP.id | apply wrapS | (with_reducible exact lenNil) | apply Eq.refl)) | ((first | (with_reducible show rvEq _ _ _ _) | (with_reducible show svEq _ _ _ _) | (with_reducible show cellEq _ _ _ _) | (with_reducible show blkEq _ _ _)); conv => whnf))
  all_goals try simp only [e1, e2, SmallP] at *
  all_goals first
    | (show ([14, 12, 10] : List Int).length ≤ _; decide)
    | omega
    | rfl
    | contradiction
    | (exfalso; omega)
    | trace_state
end Go.Eng
