/- PoolMakes, PoolMoves and PoolLast, walked. -/
import Derived.Test.YtmjogckeaaaicaaPoF
set_option linter.unusedVariables false
set_option linter.unusedSimpArgs false
namespace Go.Eng
open Go Go.Proofs

theorem okAt_iff {p : Pl} {i : Nat} : okAt p i = true ↔ (plB p).contains (p.2.2.2.getD i 0) = true ∧ (p.2.2.2.take i).contains (p.2.2.2.getD i 0) = false := by
  simp only [okAt, Bool.and_eq_true, Bool.not_eq_true']
theorem nodup_at {l : List Int} (h : l.Nodup) {i : Nat} (hi : i < l.length) : (l.take i).contains (l.getD i 0) = false := by
  cases e : (l.take i).contains (l.getD i 0) with
  | false => rfl
  | true =>
    obtain ⟨j, hj, e⟩ := has_iff.1 e
    rw [List.length_take] at hj
    have e1 : (l.take i).getD j 0 = l.getD j 0 := by
      rw [List.getD_eq_getElem?_getD, List.getD_eq_getElem?_getD, List.getElem?_take_of_lt (by omega)]
    rw [e1, List.getD_eq_getElem?_getD, List.getD_eq_getElem?_getD, List.getElem?_eq_getElem (by omega), List.getElem?_eq_getElem hi] at e
    have := (List.getElem_inj h).1 (show l[j]'(by omega) = l[i] from e)
    omega
theorem nodup_of {l : List Int} (h : ∀ i, i < l.length → (l.take i).contains (l.getD i 0) = false) : l.Nodup := by
  rw [List.nodup_iff_pairwise_ne, List.pairwise_iff_getElem]
  intro i j hi hj hij e
  have := h j hj
  rw [Bool.eq_false_iff] at this
  refine this (has_iff.2 ⟨i, by rw [List.length_take]; omega, ?_⟩)
  rw [List.getD_eq_getElem?_getD, List.getD_eq_getElem?_getD, List.getElem?_take_of_lt hij, List.getElem?_eq_getElem hi, List.getElem?_eq_getElem hj]
  exact e
theorem plR_all {p : Pl} : plR p = true ↔ sizeP p.1 p.2.1 p.2.2.1 = true ∧ p.2.2.2.Nodup ∧ ∀ x ∈ p.2.2.2, (plB p).contains x = true := by
  rw [plR_iff]
  constructor
  · rintro ⟨h1, h2⟩
    refine ⟨h1, nodup_of fun i hi => (okAt_iff.1 (h2 i hi)).2, fun x hx => ?_⟩
    obtain ⟨i, hi, e⟩ := List.mem_iff_getElem.1 hx
    have := (okAt_iff.1 (h2 i hi)).1
    rw [List.getD_eq_getElem?_getD, List.getElem?_eq_getElem hi] at this
    rw [← e]; exact this
  · rintro ⟨h1, h2, h3⟩
    refine ⟨h1, fun i hi => okAt_iff.2 ⟨h3 _ ?_, nodup_at h2 hi⟩⟩
    rw [List.getD_eq_getElem?_getD, List.getElem?_eq_getElem hi]
    exact List.getElem_mem hi
theorem plB_nodup {p : Pl} (h : 1 ≤ p.1) : (plB p).Nodup := by
  rw [List.nodup_iff_pairwise_ne, List.pairwise_iff_getElem]
  intro i j hi hj hij e
  simp only [plB, List.getElem_map, List.getElem_range] at e
  have e2 : (i : Int) * p.1 = (j : Int) * p.1 := by omega
  have := Int.eq_of_mul_eq_mul_right (by omega) e2
  omega
theorem plR_new {s b m : Int} (h : sizeP s b m = true) : plR (s, b, m, (plB (s, b, m, [])).reverse) = true := by
  have hp := sizeP_ok h []
  refine plR_all.2 ⟨h, ?_, fun x hx => ?_⟩
  · show (plB (s, b, m, [])).reverse.Nodup
    unfold List.Nodup
    rw [List.pairwise_reverse]
    exact List.Pairwise.imp Ne.symm (plB_nodup (p := (s, b, m, [])) hp.s1)
  · have hx : x ∈ (plB (s, b, m, [])).reverse := hx
    rw [List.mem_reverse] at hx
    exact List.contains_iff_mem.2 hx
theorem plR_take {s b m : Int} {l : List Int} (h : plR (s, b, m, l) = true) (k : Nat) : plR (s, b, m, l.take k) = true := by
  obtain ⟨h1, h2, h3⟩ := plR_all.1 h
  exact plR_all.2 ⟨h1, h2.sublist (List.take_sublist _ _), fun x hx => h3 x (List.mem_of_mem_take hx)⟩
theorem plR_give {s b m x : Int} {l : List Int} (h : plR (s, b, m, l) = true) (hb : (plB (s, b, m, l)).contains x = true) (hc : l.contains x = false) : plR (s, b, m, l ++ [x]) = true := by
  obtain ⟨h1, h2, h3⟩ := plR_all.1 h
  refine plR_all.2 ⟨h1, ?_, fun y hy => ?_⟩
  · show (l ++ [x]).Nodup
    rw [List.nodup_append]
    refine ⟨h2, by simp, fun a ha c hc' e => ?_⟩
    simp only [List.mem_singleton] at hc'
    subst hc' e
    rw [List.contains_iff_mem.2 ha] at hc; cases hc
  · have hy : y ∈ l ++ [x] := hy
    rcases List.mem_append.1 hy with hy | hy
    · exact h3 y hy
    · simp only [List.mem_singleton] at hy
      subst hy; exact hb
theorem len_le_of : ∀ (l B : List Int), l.Nodup → (∀ x ∈ l, x ∈ B) → l.length ≤ B.length
  | [], _, _, _ => Nat.zero_le _
  | x :: l, B, h, hs => by
    rw [List.nodup_cons] at h
    have hx : x ∈ B := hs x (by simp)
    have := len_le_of l (B.erase x) h.2 fun y hy => (List.mem_erase_of_ne (fun e => h.1 (by rw [← e]; exact hy))).2 (hs y (by simp [hy]))
    rw [List.length_erase_of_mem hx] at this
    have hp := List.length_pos_of_mem hx
    simp only [List.length_cons]
    omega
theorem plR_len {p : Pl} (h : plR p = true) : p.2.2.2.length ≤ 16 := by
  obtain ⟨h1, h2, h3⟩ := plR_all.1 h
  have := len_le_of _ (plB p) h2 fun x hx => List.contains_iff_mem.1 (h3 x hx)
  rw [plB_len] at this
  have := (plR_ok h).m16
  omega
theorem newP_yes {s b m : Int} (h : sizeP s b m = true) : newP s b m = ((s, b, m, (plB (s, b, m, [])).reverse), 0) := by rw [newP, if_pos h]
theorem newP_no {s b m : Int} (h : sizeP s b m = false) : newP s b m = (pl0, 1) := by rw [newP, h]; rfl
theorem small_new (s b m : Int) : SmallP (newP s b m).1 := by
  cases h : sizeP s b m with
  | true =>
    rw [newP_yes h]
    exact Nat.le_trans (plR_len (plR_new h)) (by omega)
  | false => rw [newP_no h]; exact Nat.zero_le _
def P6 : List (Nat × FSpec) := (24, sFew12) :: (28, sAlive12) :: (27, sRight) :: (29, sRSizes) :: (30, sPSame) :: (31, sRNew) :: (35, sRTake) ::
  (36, sRGive) :: (37, sRHeld) :: (38, sHas) :: (20, sIntsQ) :: P5
theorem P6_ok : GOK Try.prog (tab P6) := gok_cons few12_ok (gok_cons alive12_ok (gok_cons rright_ok (gok_cons rsizes_ok (gok_cons psame_ok (gok_cons rnew_ok (gok_cons rtake_ok (gok_cons rgive_ok (gok_cons rheld_ok (gok_cons has_ok (gok_cons ints_ok P5_ok))))))))))
def sPMakes : FSpec := spec (Int × Int × Int × Pl) (fun (s, b, m, p) => [.i s, .i b, .i m, .agg (plC p)]) (fun _ => True) fun _ => .b true
set_option maxHeartbeats 8000000 in
set_option maxRecDepth 100000 in
theorem pmakes_ok : Meets Try.prog 7 sPMakes := by
  refine meets_plain P6_ok rfl [2] (fn := Try.f7) rfl rfl rfl (by decide) fun ⟨s, b, m, s', b', m', l⟩ _ => ?_
  have hg : (l.take 20).length ≤ 20 := List.length_take_le _ _
  repeat' (first | (intro h; first | exact Bool.noConfusion h | (guard_hyp h : true = true; clear h) | (guard_hyp h : false = false; clear h) | (simp only [decide_eq_true_eq, decide_eq_false_iff_not, beq_iff_eq, beq_eq_false_iff_ne, bne_iff_ne, bne_eq_false_iff_eq, Bool.not_eq_true', Bool.not_eq_false', ne_eq, Classical.not_not, Bool.not_true, Bool.not_false, beqL_iff, beqL_ff, List.cons.injEq, and_true] at h) | skip) | ((conv => whnf) <;> (first | exact True.intro | apply br_rec | apply And.intro | apply CutE.goPl | apply EntP.k0 | apply EntP.k1 | apply EntP.k2 | apply EntP.k3 | apply EntP.k4 | apply EntP.k5 | apply EntP.k6 | apply DrawP.go | (apply AnyP.mk; kernel_rfl) | (refine AggP.go 2 rfl (by kernel_rfl) ?_) | (refine AggP.go 1 rfl (by kernel_rfl) ?_) | (refine AggP.go 3 rfl (by kernel_rfl) ?_) | (refine AggP.go 4 rfl (by kernel_rfl) ?_) | (refine AggP.go 5 rfl (by kernel_rfl) ?_) | (refine AggP.go 8 rfl (by kernel_rfl) ?_) | (refine AggP.go 11 rfl (by kernel_rfl) ?_) | apply CallP.own0 | apply CallP.own1 | apply CallP.own2 | apply CallP.own3 | apply CallP.nb | apply CutE.go0 | apply CutE.go7 | apply CutE.go6 | apply CutE.go5 | apply CutE.go4 | apply CutE.go3 | apply CutE.go2 | apply CutE.go1 | apply RoP.id | apply wrapS | (with_reducible exact lenNil) | apply Eq.refl)) | ((first | (with_reducible show rvEq _ _ _ _) | (with_reducible show svEq _ _ _ _) | (with_reducible show cellEq _ _ _ _) | (with_reducible show blkEq _ _ _)); conv => whnf))
  apply CutP.up (G := Unit) (fun _ => True) [0, 1, 2, 7] (fun _ => []) (fun _ => [(0, .row 48 (plC (s', b', m', l.take 20)))]) 1
  apply And.intro
  · repeat' (first | (intro h; first | exact Bool.noConfusion h | (guard_hyp h : true = true; clear h) | (guard_hyp h : false = false; clear h) | (simp only [decide_eq_true_eq, decide_eq_false_iff_not, beq_iff_eq, beq_eq_false_iff_ne, bne_iff_ne, bne_eq_false_iff_eq, Bool.not_eq_true', Bool.not_eq_false', ne_eq, Classical.not_not, Bool.not_true, Bool.not_false, beqL_iff, beqL_ff, List.cons.injEq, and_true] at h) | skip) | ((conv => whnf) <;> (first | exact True.intro | apply br_rec | apply And.intro | apply CutE.goPl | apply EntP.k0 | apply EntP.k1 | apply EntP.k2 | apply EntP.k3 | apply EntP.k4 | apply EntP.k5 | apply EntP.k6 | apply DrawP.go | (apply AnyP.mk; kernel_rfl) | (refine AggP.go 2 rfl (by kernel_rfl) ?_) | (refine AggP.go 1 rfl (by kernel_rfl) ?_) | (refine AggP.go 3 rfl (by kernel_rfl) ?_) | (refine AggP.go 4 rfl (by kernel_rfl) ?_) | (refine AggP.go 5 rfl (by kernel_rfl) ?_) | (refine AggP.go 8 rfl (by kernel_rfl) ?_) | (refine AggP.go 11 rfl (by kernel_rfl) ?_) | apply CallP.own0 | apply CallP.own1 | apply CallP.own2 | apply CallP.own3 | apply CallP.nb | apply CutE.go0 | apply CutE.go7 | apply CutE.go6 | apply CutE.go5 | apply CutE.go4 | apply CutE.go3 | apply CutE.go2 | apply CutE.go1 | apply RoP.id | apply wrapS | (with_reducible exact lenNil) | apply Eq.refl)) | ((first | (with_reducible show rvEq _ _ _ _) | (with_reducible show svEq _ _ _ _) | (with_reducible show cellEq _ _ _ _) | (with_reducible show blkEq _ _ _)); conv => whnf))
  rintro ⟨⟩ _
  generalize l.take 20 = l at *
  have hS : SmallP (s', b', m', l) := by show l.length ≤ 1000000; omega
  have hN := small_new s b m
  have h0 : SmallP pl0 := Nat.zero_le _
  cases hz : sizeP s b m with
  | true =>
    have hx := newP_yes hz
    have hr := plR_new hz
    repeat' (first | (intro h; first | exact Bool.noConfusion h | (guard_hyp h : true = true; clear h) | (guard_hyp h : false = false; clear h) | (simp only [decide_eq_true_eq, decide_eq_false_iff_not, beq_iff_eq, beq_eq_false_iff_ne, bne_iff_ne, bne_eq_false_iff_eq, Bool.not_eq_true', Bool.not_eq_false', ne_eq, Classical.not_not, Bool.not_true, Bool.not_false, beqL_iff, beqL_ff, List.cons.injEq, and_true] at h) | skip) | ((conv => whnf) <;> (first | exact True.intro | apply br_rec | apply And.intro | apply CutE.goPl2 | apply CutE.goPl | apply EntP.k0 | apply EntP.k1 | apply EntP.k2 | apply EntP.k3 | apply EntP.k4 | apply EntP.k5 | apply EntP.k6 | apply DrawP.go | (apply AnyP.mk; kernel_rfl) | (refine AggP.go 2 rfl (by kernel_rfl) ?_) | (refine AggP.go 1 rfl (by kernel_rfl) ?_) | (refine AggP.go 3 rfl (by kernel_rfl) ?_) | (refine AggP.go 4 rfl (by kernel_rfl) ?_) | (refine AggP.go 5 rfl (by kernel_rfl) ?_) | (refine AggP.go 8 rfl (by kernel_rfl) ?_) | (refine AggP.go 11 rfl (by kernel_rfl) ?_) | apply CallP.own0 | apply CallP.own1 | apply CallP.own2 | apply CallP.own3 | apply CallP.nb | apply CutE.go0 | apply CutE.go7 | apply CutE.go6 | apply CutE.go5 | apply CutE.go4 | apply CutE.go3 | apply CutE.go2 | apply CutE.go1 | apply RoP.id | apply wrapS | (with_reducible exact lenNil) | apply Eq.refl)) | ((first | (with_reducible show rvEq _ _ _ _) | (with_reducible show svEq _ _ _ _) | (with_reducible show cellEq _ _ _ _) | (with_reducible show blkEq _ _ _)); conv => whnf))
    all_goals try simp only [hx] at *
    all_goals first
      | exact hS
      | exact hN
      | exact hz
      | omega
      | contradiction
      | (exfalso; exact Bool.noConfusion (hz.symm.trans (show sizeP s b m = false by assumption)))
      | exact hr.symm
      | exact hr
      | (exfalso; exact Bool.noConfusion ((plEq_self _).symm.trans (by assumption)))
      | trace_state
  | false =>
    have hx := newP_no hz
    repeat' (first | (intro h; first | exact Bool.noConfusion h | (guard_hyp h : true = true; clear h) | (guard_hyp h : false = false; clear h) | (simp only [decide_eq_true_eq, decide_eq_false_iff_not, beq_iff_eq, beq_eq_false_iff_ne, bne_iff_ne, bne_eq_false_iff_eq, Bool.not_eq_true', Bool.not_eq_false', ne_eq, Classical.not_not, Bool.not_true, Bool.not_false, beqL_iff, beqL_ff, List.cons.injEq, and_true] at h) | skip) | ((conv => whnf) <;> (first | exact True.intro | apply br_rec | apply And.intro | apply CutE.goPl2 | apply CutE.goPl | apply EntP.k0 | apply EntP.k1 | apply EntP.k2 | apply EntP.k3 | apply EntP.k4 | apply EntP.k5 | apply EntP.k6 | apply DrawP.go | (apply AnyP.mk; kernel_rfl) | (refine AggP.go 2 rfl (by kernel_rfl) ?_) | (refine AggP.go 1 rfl (by kernel_rfl) ?_) | (refine AggP.go 3 rfl (by kernel_rfl) ?_) | (refine AggP.go 4 rfl (by kernel_rfl) ?_) | (refine AggP.go 5 rfl (by kernel_rfl) ?_) | (refine AggP.go 8 rfl (by kernel_rfl) ?_) | (refine AggP.go 11 rfl (by kernel_rfl) ?_) | apply CallP.own0 | apply CallP.own1 | apply CallP.own2 | apply CallP.own3 | apply CallP.nb | apply CutE.go0 | apply CutE.go7 | apply CutE.go6 | apply CutE.go5 | apply CutE.go4 | apply CutE.go3 | apply CutE.go2 | apply CutE.go1 | apply RoP.id | apply wrapS | (with_reducible exact lenNil) | apply Eq.refl)) | ((first | (with_reducible show rvEq _ _ _ _) | (with_reducible show svEq _ _ _ _) | (with_reducible show cellEq _ _ _ _) | (with_reducible show blkEq _ _ _)); conv => whnf))
    all_goals try simp only [hx] at *
    all_goals first
      | exact hS
      | exact hN
      | omega
      | contradiction
      | (exfalso; exact Bool.noConfusion (hz.symm.trans (show sizeP s b m = true by assumption)))
      | exact (plEq_self _).symm
      | trace_state
end Go.Eng
