/- PoolLast, walked. -/
import Derived.Test.YtmjogckeaaaicaaPoH
set_option linter.unusedVariables false
set_option linter.unusedSimpArgs false
namespace Go.Eng
open Go Go.Proofs

theorem giveP_ok {p : Pl} {x : Int} (h : (giveP p x).2 = 0) : plR p = true ∧ (plB p).contains x = true ∧ p.2.2.2.contains x = false := by
  cases hr : plR p with
  | false => rw [giveP_no hr] at h; exact absurd h (by decide)
  | true =>
    cases hb : (plB p).contains x with
    | false => rw [giveP_out hr hb] at h; exact absurd h (by decide)
    | true =>
      cases hc : p.2.2.2.contains x with
      | true => rw [giveP_twice hr hb hc] at h; exact absurd h (by decide)
      | false => exact ⟨rfl, rfl, rfl⟩
theorem giveP_zero {p : Pl} {x : Int} (h : ¬ (giveP p x).2 = 0) : (giveP p x).1 = pl0 := by
  cases hr : plR p with
  | false => rw [giveP_no hr]
  | true =>
    cases hb : (plB p).contains x with
    | false => rw [giveP_out hr hb]
    | true =>
      cases hc : p.2.2.2.contains x with
      | true => rw [giveP_twice hr hb hc]
      | false => rw [giveP_go hr hb hc] at h; exact absurd rfl h
/-- A block given back is taken next, and the pool is as it was. -/
theorem take_give {s b m x : Int} {l : List Int} (hr : plR (s, b, m, l) = true) (hb : (plB (s, b, m, l)).contains x = true) (hc : l.contains x = false) : takeP (s, b, m, l ++ [x]) = ((s, b, m, l), x, 0) := by
  have hlen : (l ++ [x]).length = l.length + 1 := by rw [List.length_append]; rfl
  rw [takeP_go (plR_give hr hb hc) (by show ¬ (l ++ [x]).length = 0; omega)]
  have e1 : (l ++ [x]).take ((l ++ [x]).length - 1) = l := by
    rw [hlen, Nat.add_sub_cancel, List.take_left']; rfl
  have e2 : (l ++ [x]).getD ((l ++ [x]).length - 1) 0 = x := by
    rw [hlen, Nat.add_sub_cancel]; simp [List.getD_eq_getElem?_getD]
  show ((s, b, m, (l ++ [x]).take ((l ++ [x]).length - 1)), (l ++ [x]).getD ((l ++ [x]).length - 1) 0, (0 : Int)) = _
  rw [e1, e2]
/-- So many blocks taken. -/
def takes (l : List Int) (k : Nat) : List Int := l.take (l.length - k)
theorem takes_len (l : List Int) (k : Nat) : (takes l k).length = l.length - k := by
  unfold takes; rw [List.length_take]; omega
theorem takes0 (l : List Int) : takes l 0 = l := by unfold takes; rw [Nat.sub_zero, List.take_length]
theorem plR_takes {s b m : Int} {l : List Int} (hr : plR (s, b, m, l) = true) (k : Nat) : plR (s, b, m, takes l k) = true := plR_take hr _
theorem takes_none {s b m : Int} {l : List Int} (hr : plR (s, b, m, l) = true) {k : Nat} (h : l.length ≤ k) : takeP (s, b, m, takes l k) = (pl0, 0, 14) :=
  takeP_none (plR_takes hr _) (by show (takes l k).length = 0; rw [takes_len]; omega)
theorem takes_go {s b m : Int} {l : List Int} (hr : plR (s, b, m, l) = true) {k : Nat} (h : k < l.length) : takeP (s, b, m, takes l k) = ((s, b, m, takes l (k + 1)), l.getD (l.length - 1 - k) 0, 0) := by
  have hl := takes_len l k
  rw [takeP_go (plR_takes hr _) (by show ¬ (takes l k).length = 0; omega)]
  have e1 : (takes l k).take ((takes l k).length - 1) = takes l (k + 1) := by
    rw [hl]
    unfold takes
    rw [List.take_take]
    congr 1
    omega
  have e2 : (takes l k).getD ((takes l k).length - 1) 0 = l.getD (l.length - 1 - k) 0 := by
    rw [hl]
    unfold takes
    rw [List.getD_eq_getElem?_getD, List.getD_eq_getElem?_getD, List.getElem?_take_of_lt (by omega)]
    congr 2
    omega
  show ((s, b, m, (takes l k).take ((takes l k).length - 1)), (takes l k).getD ((takes l k).length - 1) 0, (0 : Int)) = _
  rw [e1, e2]
def sPLast : FSpec := spec (Pl × Int) (fun (p, x) => [.agg (plC p), .i x]) (fun _ => True) fun _ => .b true
set_option maxHeartbeats 8000000 in
set_option maxRecDepth 100000 in
theorem plast_ok : Meets Try.prog 8 sPLast := by
  refine meets_plain P6_ok rfl [2] (fn := Try.f8) rfl rfl rfl (by decide) fun ⟨(s, b, m, l), x⟩ _ => ?_
  have hg : (l.take 20).length ≤ 20 := List.length_take_le _ _
  repeat' (first | (intro h; first | exact Bool.noConfusion h | (guard_hyp h : true = true; clear h) | (guard_hyp h : false = false; clear h) | (simp only [decide_eq_true_eq, decide_eq_false_iff_not, beq_iff_eq, beq_eq_false_iff_ne, bne_iff_ne, bne_eq_false_iff_eq, Bool.not_eq_true', Bool.not_eq_false', ne_eq, Classical.not_not, Bool.not_true, Bool.not_false, beqL_iff, beqL_ff, List.cons.injEq, and_true] at h) | skip) | ((conv => whnf) <;> (first | exact True.intro | apply br_rec | apply And.intro | apply CutE.goPl | apply EntP.k0 | apply EntP.k1 | apply EntP.k2 | apply EntP.k3 | apply EntP.k4 | apply EntP.k5 | apply EntP.k6 | apply DrawP.go | (apply AnyP.mk; kernel_rfl) | (refine AggP.go 2 rfl (by kernel_rfl) ?_) | (refine AggP.go 1 rfl (by kernel_rfl) ?_) | (refine AggP.go 3 rfl (by kernel_rfl) ?_) | (refine AggP.go 4 rfl (by kernel_rfl) ?_) | (refine AggP.go 5 rfl (by kernel_rfl) ?_) | (refine AggP.go 8 rfl (by kernel_rfl) ?_) | (refine AggP.go 11 rfl (by kernel_rfl) ?_) | apply CallP.own0 | apply CallP.own1 | apply CallP.own2 | apply CallP.own3 | apply CallP.nb | apply CutE.go0 | apply CutE.go7 | apply CutE.go6 | apply CutE.go5 | apply CutE.go4 | apply CutE.go3 | apply CutE.go2 | apply CutE.go1 | apply RoP.id | apply wrapS | (with_reducible exact lenNil) | apply Eq.refl)) | ((first | (with_reducible show rvEq _ _ _ _) | (with_reducible show svEq _ _ _ _) | (with_reducible show cellEq _ _ _ _) | (with_reducible show blkEq _ _ _)); conv => whnf))
  apply CutP.up (G := Unit) (fun _ => True) [1, 2] (fun _ => []) (fun _ => [(0, .row 48 (plC (s, b, m, l.take 20)))]) 1
  apply And.intro
  · repeat' (first | (intro h; first | exact Bool.noConfusion h | (guard_hyp h : true = true; clear h) | (guard_hyp h : false = false; clear h) | (simp only [decide_eq_true_eq, decide_eq_false_iff_not, beq_iff_eq, beq_eq_false_iff_ne, bne_iff_ne, bne_eq_false_iff_eq, Bool.not_eq_true', Bool.not_eq_false', ne_eq, Classical.not_not, Bool.not_true, Bool.not_false, beqL_iff, beqL_ff, List.cons.injEq, and_true] at h) | skip) | ((conv => whnf) <;> (first | exact True.intro | apply br_rec | apply And.intro | apply CutE.goPl | apply EntP.k0 | apply EntP.k1 | apply EntP.k2 | apply EntP.k3 | apply EntP.k4 | apply EntP.k5 | apply EntP.k6 | apply DrawP.go | (apply AnyP.mk; kernel_rfl) | (refine AggP.go 2 rfl (by kernel_rfl) ?_) | (refine AggP.go 1 rfl (by kernel_rfl) ?_) | (refine AggP.go 3 rfl (by kernel_rfl) ?_) | (refine AggP.go 4 rfl (by kernel_rfl) ?_) | (refine AggP.go 5 rfl (by kernel_rfl) ?_) | (refine AggP.go 8 rfl (by kernel_rfl) ?_) | (refine AggP.go 11 rfl (by kernel_rfl) ?_) | apply CallP.own0 | apply CallP.own1 | apply CallP.own2 | apply CallP.own3 | apply CallP.nb | apply CutE.go0 | apply CutE.go7 | apply CutE.go6 | apply CutE.go5 | apply CutE.go4 | apply CutE.go3 | apply CutE.go2 | apply CutE.go1 | apply RoP.id | apply wrapS | (with_reducible exact lenNil) | apply Eq.refl)) | ((first | (with_reducible show rvEq _ _ _ _) | (with_reducible show svEq _ _ _ _) | (with_reducible show cellEq _ _ _ _) | (with_reducible show blkEq _ _ _)); conv => whnf))
  rintro ⟨⟩ _
  generalize l.take 20 = l at *
  have hS : SmallP (s, b, m, l) := by show l.length ≤ 1000000; omega
  have hS2 : (s, b, m, l).2.2.2.length ≤ 100000 := by show l.length ≤ 100000; omega
  by_cases he : (giveP (s, b, m, l) x).2 = 0
  · obtain ⟨hr, hb, hc⟩ := giveP_ok he
    have e1 := giveP_go hr hb hc
    have e2 := take_give hr hb hc
    have hlen : (l ++ [x]).length = l.length + 1 := by rw [List.length_append]; rfl
    have h16 : l.length ≤ 16 := plR_len hr
    have hS3 : SmallP (s, b, m, l ++ [x]) := by show (l ++ [x]).length ≤ 1000000; omega
    have e1 : giveP (s, b, m, l) x = ((s, b, m, l ++ [x]), 0) := e1
    clear he
    repeat' (first | (intro h; first | exact Bool.noConfusion h | (guard_hyp h : true = true; clear h) | (guard_hyp h : false = false; clear h) | (simp only [decide_eq_true_eq, decide_eq_false_iff_not, beq_iff_eq, beq_eq_false_iff_ne, bne_iff_ne, bne_eq_false_iff_eq, Bool.not_eq_true', Bool.not_eq_false', ne_eq, Classical.not_not, Bool.not_true, Bool.not_false, beqL_iff, beqL_ff, List.cons.injEq, and_true] at h) | skip) | ((conv => whnf) <;> (first | exact True.intro | apply br_rec | apply And.intro | apply CutE.goPl2 | apply CutE.goPl1 | apply CutE.goPl | apply EntP.k0 | apply EntP.k1 | apply EntP.k2 | apply EntP.k3 | apply EntP.k4 | apply EntP.k5 | apply EntP.k6 | apply DrawP.go | (apply AnyP.mk; kernel_rfl) | (refine AggP.go 2 rfl (by kernel_rfl) ?_) | (refine AggP.go 1 rfl (by kernel_rfl) ?_) | (refine AggP.go 3 rfl (by kernel_rfl) ?_) | (refine AggP.go 4 rfl (by kernel_rfl) ?_) | (refine AggP.go 5 rfl (by kernel_rfl) ?_) | (refine AggP.go 8 rfl (by kernel_rfl) ?_) | (refine AggP.go 11 rfl (by kernel_rfl) ?_) | apply CallP.own0 | apply CallP.own1 | apply CallP.own2 | apply CallP.own3 | apply CallP.nb | apply CutE.go0 | apply CutE.go7 | apply CutE.go6 | apply CutE.go5 | apply CutE.go4 | apply CutE.go3 | apply CutE.go2 | apply CutE.go1 | apply RoP.id | apply wrapS | (with_reducible exact lenNil) | apply Eq.refl)) | ((first | (with_reducible show rvEq _ _ _ _) | (with_reducible show svEq _ _ _ _) | (with_reducible show cellEq _ _ _ _) | (with_reducible show blkEq _ _ _)); conv => whnf))
    rotate_right 1
    · apply LoopP.up (G := Nat) (fun k => k ≤ l.length ∧ k ≤ 17) [7, 53] (fun k => [(53, .i k)]) (fun k => [(2, .row 48 (plC (s, b, m, takes l k)))]) 3 (fun k => 17 - k)
      apply And.intro
      · refine CutE.at 0 ?_
        repeat' (first | (intro h; first | exact Bool.noConfusion h | (guard_hyp h : true = true; clear h) | (guard_hyp h : false = false; clear h) | (simp only [decide_eq_true_eq, decide_eq_false_iff_not, beq_iff_eq, beq_eq_false_iff_ne, bne_iff_ne, bne_eq_false_iff_eq, Bool.not_eq_true', Bool.not_eq_false', ne_eq, Classical.not_not, Bool.not_true, Bool.not_false, beqL_iff, beqL_ff, List.cons.injEq, and_true] at h) | skip) | ((conv => whnf) <;> (first | exact True.intro | apply br_rec | apply And.intro | apply EntP.id 3 | apply EntP.k0 | apply EntP.k1 | apply EntP.k2 | apply EntP.k3 | apply EntP.k4 | apply EntP.k5 | apply EntP.k6 | apply DrawP.go | (apply AnyP.mk; kernel_rfl) | (refine AggP.go 2 rfl (by kernel_rfl) ?_) | (refine AggP.go 1 rfl (by kernel_rfl) ?_) | (refine AggP.go 3 rfl (by kernel_rfl) ?_) | (refine AggP.go 4 rfl (by kernel_rfl) ?_) | (refine AggP.go 5 rfl (by kernel_rfl) ?_) | (refine AggP.go 8 rfl (by kernel_rfl) ?_) | (refine AggP.go 11 rfl (by kernel_rfl) ?_) | apply CallP.own0 | apply CallP.own1 | apply CallP.own2 | apply CallP.own3 | apply CallP.nb | apply CutE.go0 | apply CutE.go7 | apply CutE.go6 | apply CutE.go5 | apply CutE.go4 | apply CutE.go3 | apply CutE.go2 | apply CutE.go1 | apply RoP.id | apply wrapS | (with_reducible exact lenNil) | apply Eq.refl)) | ((first | (with_reducible show rvEq _ _ _ _) | (with_reducible show svEq _ _ _ _) | (with_reducible show cellEq _ _ _ _) | (with_reducible show blkEq _ _ _)); conv => whnf))
        all_goals try simp only [e1, e2, takes0] at *
        all_goals first
          | omega
          | rfl
          | exact Nat.zero_le _
          | trace_state
      rintro k ⟨hk, hk2⟩
      have hk : k ≤ l.length := hk
      have hl := takes_len l k
      have hS4 : SmallP (s, b, m, takes l k) := by show (takes l k).length ≤ 1000000; omega
      by_cases hkl : k = l.length
      · have e3 := takes_none hr (k := k) (by omega)
        have e4 : (takes l k).length = 0 := by omega
        repeat' (first | (intro h; first | exact Bool.noConfusion h | (guard_hyp h : true = true; clear h) | (guard_hyp h : false = false; clear h) | (simp only [decide_eq_true_eq, decide_eq_false_iff_not, beq_iff_eq, beq_eq_false_iff_ne, bne_iff_ne, bne_eq_false_iff_eq, Bool.not_eq_true', Bool.not_eq_false', ne_eq, Classical.not_not, Bool.not_true, Bool.not_false, beqL_iff, beqL_ff, List.cons.injEq, and_true] at h) | skip) | ((conv => whnf) <;> (first | exact True.intro | apply br_rec | apply And.intro | refine CutE.at (A := Nat) (k + 1) ?_ | refine CutE.at (A := Pl) (s, b, m, takes l k) ?_ | apply EntP.id 3 | apply EntP.k0 | apply EntP.k1 | apply EntP.k2 | apply EntP.k3 | apply EntP.k4 | apply EntP.k5 | apply EntP.k6 | apply DrawP.go | (apply AnyP.mk; kernel_rfl) | (refine AggP.go 2 rfl (by kernel_rfl) ?_) | (refine AggP.go 1 rfl (by kernel_rfl) ?_) | (refine AggP.go 3 rfl (by kernel_rfl) ?_) | (refine AggP.go 4 rfl (by kernel_rfl) ?_) | (refine AggP.go 5 rfl (by kernel_rfl) ?_) | (refine AggP.go 8 rfl (by kernel_rfl) ?_) | (refine AggP.go 11 rfl (by kernel_rfl) ?_) | apply CallP.own0 | apply CallP.own1 | apply CallP.own2 | apply CallP.own3 | apply CallP.nb | apply CutE.go0 | apply CutE.go7 | apply CutE.go6 | apply CutE.go5 | apply CutE.go4 | apply CutE.go3 | apply CutE.go2 | apply CutE.go1 | apply RoP.id | apply wrapS | (with_reducible exact lenNil) | apply Eq.refl)) | ((first | (with_reducible show rvEq _ _ _ _) | (with_reducible show svEq _ _ _ _) | (with_reducible show cellEq _ _ _ _) | (with_reducible show blkEq _ _ _)); conv => whnf))
        all_goals try simp only [e3, e4] at *
        all_goals first
          | exact hS4
          | rfl
          | contradiction
          | (exfalso; omega)
          | trace_state
      · have e3 := takes_go hr (k := k) (by omega)
        have hl2 := takes_len l (k + 1)
        have hw : IntKind.i64.wrap (((takes l k).length : Int) - 1) = ((takes l (k + 1)).length : Int) := by rw [wrap_i64 (by omega)]; omega
        repeat' (first | (intro h; first | exact Bool.noConfusion h | (guard_hyp h : true = true; clear h) | (guard_hyp h : false = false; clear h) | (simp only [decide_eq_true_eq, decide_eq_false_iff_not, beq_iff_eq, beq_eq_false_iff_ne, bne_iff_ne, bne_eq_false_iff_eq, Bool.not_eq_true', Bool.not_eq_false', ne_eq, Classical.not_not, Bool.not_true, Bool.not_false, beqL_iff, beqL_ff, List.cons.injEq, and_true] at h) | skip) | ((conv => whnf) <;> (first | exact True.intro | apply br_rec | apply And.intro | refine CutE.at (A := Nat) (k + 1) ?_ | refine CutE.at (A := Pl) (s, b, m, takes l k) ?_ | apply EntP.id 3 | apply EntP.k0 | apply EntP.k1 | apply EntP.k2 | apply EntP.k3 | apply EntP.k4 | apply EntP.k5 | apply EntP.k6 | apply DrawP.go | (apply AnyP.mk; kernel_rfl) | (refine AggP.go 2 rfl (by kernel_rfl) ?_) | (refine AggP.go 1 rfl (by kernel_rfl) ?_) | (refine AggP.go 3 rfl (by kernel_rfl) ?_) | (refine AggP.go 4 rfl (by kernel_rfl) ?_) | (refine AggP.go 5 rfl (by kernel_rfl) ?_) | (refine AggP.go 8 rfl (by kernel_rfl) ?_) | (refine AggP.go 11 rfl (by kernel_rfl) ?_) | apply CallP.own0 | apply CallP.own1 | apply CallP.own2 | apply CallP.own3 | apply CallP.nb | apply CutE.go0 | apply CutE.go7 | apply CutE.go6 | apply CutE.go5 | apply CutE.go4 | apply CutE.go3 | apply CutE.go2 | apply CutE.go1 | apply RoP.id | apply wrapS | (with_reducible exact lenNil) | apply Eq.refl)) | ((first | (with_reducible show rvEq _ _ _ _) | (with_reducible show svEq _ _ _ _) | (with_reducible show cellEq _ _ _ _) | (with_reducible show blkEq _ _ _)); conv => whnf))
        all_goals try simp only [e3, hw] at *
        all_goals first
          | exact hS4
          | omega
          | rfl
          | contradiction
          | (exfalso; exact absurd rfl (by assumption))
          | (show 17 - (k + 1) < 17 - k; omega)
          | (show k + 1 ≤ l.length; omega)
          | (show k + 1 ≤ 17; omega)
          | trace_state
    all_goals try simp only [e1, e2] at *
    all_goals first
      | exact hS
      | exact hS2
      | exact hS3
      | contradiction
      | omega
      | (exfalso; omega)
      | (exfalso; exact absurd rfl (by assumption))
      | (exfalso; exact Bool.noConfusion ((plEq_self _).symm.trans (by assumption)))
      | trace_state
  · have e1 := giveP_zero he
    repeat' (first | (intro h; first | exact Bool.noConfusion h | (guard_hyp h : true = true; clear h) | (guard_hyp h : false = false; clear h) | (simp only [decide_eq_true_eq, decide_eq_false_iff_not, beq_iff_eq, beq_eq_false_iff_ne, bne_iff_ne, bne_eq_false_iff_eq, Bool.not_eq_true', Bool.not_eq_false', ne_eq, Classical.not_not, Bool.not_true, Bool.not_false, beqL_iff, beqL_ff, List.cons.injEq, and_true] at h) | skip) | ((conv => whnf) <;> (first | exact True.intro | apply br_rec | apply And.intro | apply CutE.goPl2 | apply CutE.goPl1 | apply CutE.goPl | apply EntP.k0 | apply EntP.k1 | apply EntP.k2 | apply EntP.k3 | apply EntP.k4 | apply EntP.k5 | apply EntP.k6 | apply DrawP.go | (apply AnyP.mk; kernel_rfl) | (refine AggP.go 2 rfl (by kernel_rfl) ?_) | (refine AggP.go 1 rfl (by kernel_rfl) ?_) | (refine AggP.go 3 rfl (by kernel_rfl) ?_) | (refine AggP.go 4 rfl (by kernel_rfl) ?_) | (refine AggP.go 5 rfl (by kernel_rfl) ?_) | (refine AggP.go 8 rfl (by kernel_rfl) ?_) | (refine AggP.go 11 rfl (by kernel_rfl) ?_) | apply CallP.own0 | apply CallP.own1 | apply CallP.own2 | apply CallP.own3 | apply CallP.nb | apply CutE.go0 | apply CutE.go7 | apply CutE.go6 | apply CutE.go5 | apply CutE.go4 | apply CutE.go3 | apply CutE.go2 | apply CutE.go1 | apply RoP.id | apply wrapS | (with_reducible exact lenNil) | apply Eq.refl)) | ((first | (with_reducible show rvEq _ _ _ _) | (with_reducible show svEq _ _ _ _) | (with_reducible show cellEq _ _ _ _) | (with_reducible show blkEq _ _ _)); conv => whnf))
    all_goals try simp only [e1] at *
    all_goals first
      | exact hS
      | exact hS2
      | rfl
      | contradiction
      | (exfalso; omega)
      | trace_state
end Go.Eng
