/- WeighFair: who is picked had no greater pass than who counts has in the end. -/
import Derived.Test.YtmjogckeaaaicaaWkD
set_option linter.unusedVariables false
set_option linter.unusedSimpArgs false
namespace Go.Eng
open Go Go.Proofs

theorem firstG_min {ask : Nat → Bool} {l : List Nat} : ∀ {i j : Nat}, j < i → ask j = true → 0 ≤ firstG ask l i ∧ rk (l.getD (firstG ask l i).toNat default) ≤ rk (l.getD j default)
  | 0, j, h, _ => absurd h (Nat.not_lt_zero _)
  | i + 1, j, h, hj => by
    unfold firstG
    split
    · rename_i q
      refine ⟨by omega, ?_⟩
      rw [Int.toNat_natCast]
      by_cases e : j = i
      · rw [e]; omega
      · obtain ⟨h1, h2⟩ := firstG_min (ask := ask) (l := l) (show j < i by omega) hj
        rcases q.2 with q | q
        · omega
        · rw [lessF_is, decide_eq_true_eq] at q
          omega
    · rename_i q
      by_cases e : j = i
      · subst e
        by_cases e2 : firstG ask l j < 0
        · exact absurd ⟨hj, .inl e2⟩ q
        · refine ⟨by omega, ?_⟩
          by_cases e3 : lessF (l.getD j default) (l.getD (firstG ask l j).toNat default) = true
          · exact absurd ⟨hj, .inr e3⟩ q
          · rw [lessF_is, decide_eq_true_eq] at e3
            omega
      · exact firstG_min (by omega) hj
theorem pk_at (ws : List Nat) : ∀ (n t : Nat), t < n → (pkG ws n).1.getD t default = firstF (cntF ws) (pkG ws t).2
  | 0, t, h => absurd h (Nat.not_lt_zero _)
  | n + 1, t, h => by
    have hl := (pk_len ws n).1
    show ((pkG ws n).1 ++ [_]).getD t default = _
    by_cases e : t = n
    · subst e
      rw [List.getD_eq_getElem?_getD, List.getElem?_append_right (by omega), hl, Nat.sub_self]; rfl
    · rw [List.getD_eq_getElem?_getD, List.getElem?_append_left (by omega), ← List.getD_eq_getElem?_getD]
      exact pk_at ws n t (by omega)
/-- What each had when it was picked last. -/
def befG (ws : List Nat) : Nat → List Nat
  | 0 => List.replicate ws.length 0
  | t + 1 => (befG ws t).set (firstF (cntF ws) (pkG ws t).2).toNat ((pkG ws t).2.getD (firstF (cntF ws) (pkG ws t).2).toNat default)
theorem bef_len (ws : List Nat) : ∀ t, (befG ws t).length = ws.length
  | 0 => List.length_replicate
  | t + 1 => by show (List.set _ _ _).length = _; rw [List.length_set]; exact bef_len ws t
theorem bef_le {ws : List Nat} (hw : OkF ws) (h : SomeF ws) : ∀ (t i j : Nat), j < ws.length → cntF ws j = true → (befG ws t).getD i default ≤ (pkG ws t).2.getD j default
  | 0, i, j, hj, hc => by
    show (List.replicate ws.length 0).getD i default ≤ (List.replicate ws.length 0).getD j default
    rw [getD_rep, getD_rep]; exact Nat.le_refl _
  | t + 1, i, j, hj, hc => by
    have hI := pkI hw h t
    obtain ⟨_, _, _, s4, s5⟩ := step_ok hw hI.pl hI.le h
    have hm : (pkG ws t).2.getD j default ≤ (pkG ws (t + 1)).2.getD j default := by
      show _ ≤ (List.set _ _ _).getD j default
      rw [getD_setN]
      split
      · rename_i q; rw [← q.1]; exact s4
      · exact Nat.le_refl _
    have hb : (befG ws (t + 1)).getD i default ≤ (pkG ws t).2.getD j default := by
      show (List.set _ _ _).getD i default ≤ _
      rw [getD_setN]
      split
      · have h2 := (firstG_min (ask := cntF ws) (l := (pkG ws t).2) (i := (pkG ws t).2.length) (j := j) (by rw [hI.pl]; exact hj) hc).2
        have h2 : rk ((pkG ws t).2.getD (firstF (cntF ws) (pkG ws t).2).toNat default) ≤ rk ((pkG ws t).2.getD j default) := h2
        rw [rk_pos (hI.le _), rk_pos (hI.le _)] at h2
        omega
      · exact bef_le hw h t i j hj hc
    exact Nat.le_trans hb hm
theorem bef_inf {ws : List Nat} (hw : OkF ws) (h : SomeF ws) (t i : Nat) : (befG ws t).getD i default ≤ 9218868437227405312 := by
  obtain ⟨j, hj, hc⟩ := someF_iff.1 h
  exact Nat.le_trans (bef_le hw h t i j hj hc) ((pkI hw h t).le j)
theorem fair_no {ws : List Nat} (hw : OkF ws) (t i j : Nat) (hj : j < ws.length) (hc : fGt (ws.getD j default) 0 = true) (hi : i < ws.length) (hc2 : fGt (ws.getD i default) 0 = true) : fGt ((befG ws t).getD i default) ((pkG ws t).2.getD j default) = false := by
  have h : SomeF ws := someF_iff.2 ⟨j, hj, hc⟩
  have h1 := bef_le hw h t i j hj hc
  have h2 := (pkI hw h t).le j
  have h3 := bef_inf hw h t i
  rw [fGt_is]
  refine decide_eq_false fun q => ?_
  have q := q.2.2
  rw [(pos_rung h2).2.2.2, (pos_rung h3).2.2.2] at q
  omega
def fairN (n : Int) : Int := (IntKind.i64.wrap (n.tmod 300 + 300)).tmod 300
theorem fairN_is (n : Int) : 0 ≤ fairN n ∧ fairN n < 300 := by
  unfold fairN
  have h1 := Int.tmod_lt_of_pos n (show (0 : Int) < 300 by omega)
  have h2 := Int.lt_tmod_of_pos n (show (0 : Int) < 300 by omega)
  rw [wrap_i64 (by omega)]
  have h3 := Int.tmod_lt_of_pos (n.tmod 300 + 300) (show (0 : Int) < 300 by omega)
  have h4 : 0 ≤ (n.tmod 300 + 300).tmod 300 := Int.tmod_nonneg _ (by omega)
  omega
structure OkL (l : List Nat) : Prop where
  ok : ∀ i, i < l.length → l.getD i default < 2 ^ 64
theorem okL_of {l : List Nat} (h : ∀ x ∈ l, x < 2 ^ 64) : OkL l := ⟨fun i hi => by
  rw [List.getD_eq_getElem?_getD, List.getElem?_eq_getElem hi]
  exact h _ (List.getElem_mem hi)⟩
theorem okF_take {l : List Nat} (h : OkL l) (m : Nat) : OkF (l.take m) := ⟨fun i hi => by
  rw [List.length_take] at hi
  rw [List.getD_eq_getElem?_getD, List.getElem?_take, if_pos (by omega), ← List.getD_eq_getElem?_getD]
  exact h.ok i (by omega)⟩
def sWFair : FSpec := spec (List Nat × Int) (fun (l, n) => [.c (flsS l), .i n]) (fun (l, _) => OkL l) fun _ => .b true
set_option maxHeartbeats 8000000 in
set_option maxRecDepth 100000 in
theorem wfair_ok : Meets Try.prog 3 sWFair := by
  refine meets_plain Wk5_ok rfl [2, 14] (fn := Try.f3) rfl rfl rfl (by decide) fun ⟨l, n⟩ hh => ?_
  have hok := okF_take hh 12
  have h12 : (l.take 12).length ≤ 12 := List.length_take_le _ _
  clear hh
  have hm0 := fairN_is n
  repeat' (first | (intro h; first | exact Bool.noConfusion h | (guard_hyp h : true = true; clear h) | (guard_hyp h : false = false; clear h) | (simp only [decide_eq_true_eq, decide_eq_false_iff_not, beq_iff_eq, beq_eq_false_iff_ne, bne_iff_ne, bne_eq_false_iff_eq, Bool.not_eq_true', Bool.not_eq_false', ne_eq, Classical.not_not, Bool.not_true, Bool.not_false, beqL_iff, beqL_ff, List.cons.injEq, and_true] at h) | skip) | ((conv => whnf) <;> (first | exact True.intro | apply br_rec | apply And.intro | apply EntP.k0 | apply EntP.k1 | apply EntP.k2 | apply EntP.k3 | apply EntP.k4 | apply EntP.k5 | apply EntP.k6 | apply DrawP.go | (apply AnyP.mk; kernel_rfl) | (refine AggP.go 2 rfl (by kernel_rfl) ?_) | (refine AggP.go 1 rfl (by kernel_rfl) ?_) | (refine AggP.go 3 rfl (by kernel_rfl) ?_) | (refine AggP.go 4 rfl (by kernel_rfl) ?_) | (refine AggP.go 5 rfl (by kernel_rfl) ?_) | (refine AggP.go 8 rfl (by kernel_rfl) ?_) | (refine AggP.go 11 rfl (by kernel_rfl) ?_) | apply CallP.own0 | apply CallP.own1 | apply CallP.own2 | apply CallP.own3 | apply CallP.nb | apply CutE.go0 | apply CutE.go7 | apply CutE.go6 | apply CutE.go5 | apply CutE.go4 | apply CutE.go3 | apply CutE.go2 | apply CutE.go1 | apply RoP.id | apply wrapS | (with_reducible exact lenNil) | apply Eq.refl)) | ((first | (with_reducible show rvEq _ _ _ _) | (with_reducible show svEq _ _ _ _) | (with_reducible show cellEq _ _ _ _) | (with_reducible show blkEq _ _ _)); conv => whnf))
  apply CutP.up (G := Int) (fun m => 0 ≤ m ∧ m < 300) [0, 1] (fun m => [(0, .c (flsS (l.take 12))), (1, .i m)]) (fun _ => []) 0
  apply And.intro
  · repeat' (first | (intro h; first | exact Bool.noConfusion h | (guard_hyp h : true = true; clear h) | (guard_hyp h : false = false; clear h) | (simp only [decide_eq_true_eq, decide_eq_false_iff_not, beq_iff_eq, beq_eq_false_iff_ne, bne_iff_ne, bne_eq_false_iff_eq, Bool.not_eq_true', Bool.not_eq_false', ne_eq, Classical.not_not, Bool.not_true, Bool.not_false, beqL_iff, beqL_ff, List.cons.injEq, and_true] at h) | skip) | ((conv => whnf) <;> (first | exact True.intro | apply br_rec | apply And.intro | refine CutE.at (A := Int) (fairN n) ?_ | apply EntP.k0 | apply EntP.k1 | apply EntP.k2 | apply EntP.k3 | apply EntP.k4 | apply EntP.k5 | apply EntP.k6 | apply DrawP.go | (apply AnyP.mk; kernel_rfl) | (refine AggP.go 2 rfl (by kernel_rfl) ?_) | (refine AggP.go 1 rfl (by kernel_rfl) ?_) | (refine AggP.go 3 rfl (by kernel_rfl) ?_) | (refine AggP.go 4 rfl (by kernel_rfl) ?_) | (refine AggP.go 5 rfl (by kernel_rfl) ?_) | (refine AggP.go 8 rfl (by kernel_rfl) ?_) | (refine AggP.go 11 rfl (by kernel_rfl) ?_) | apply CallP.own0 | apply CallP.own1 | apply CallP.own2 | apply CallP.own3 | apply CallP.nb | apply CutE.go0 | apply CutE.go7 | apply CutE.go6 | apply CutE.go5 | apply CutE.go4 | apply CutE.go3 | apply CutE.go2 | apply CutE.go1 | apply RoP.id | apply wrapS | (with_reducible exact lenNil) | apply Eq.refl)) | ((first | (with_reducible show rvEq _ _ _ _) | (with_reducible show svEq _ _ _ _) | (with_reducible show cellEq _ _ _ _) | (with_reducible show blkEq _ _ _)); conv => whnf))
    all_goals first | rfl | omega | exact hm0.1 | exact hm0.2 | trace_state
  intro m hm
  have hm : 0 ≤ m ∧ m < 300 := hm
  generalize l.take 12 = W at *
  by_cases he : (picksF W m).2 = 0
  case neg =>
    have e1 : (picksF W m).1 = [] := by
      unfold picksF at he ⊢
      split
      · rfl
      · rename_i q
        rw [if_neg q] at he
        split
        · rfl
        · rename_i q2
          rw [if_neg q2] at he
          exact absurd rfl he
    repeat' (first | (intro h; first | exact Bool.noConfusion h | (guard_hyp h : true = true; clear h) | (guard_hyp h : false = false; clear h) | (simp only [decide_eq_true_eq, decide_eq_false_iff_not, beq_iff_eq, beq_eq_false_iff_ne, bne_iff_ne, bne_eq_false_iff_eq, Bool.not_eq_true', Bool.not_eq_false', ne_eq, Classical.not_not, Bool.not_true, Bool.not_false, beqL_iff, beqL_ff, List.cons.injEq, and_true] at h) | skip) | ((conv => whnf) <;> (first | exact True.intro | apply br_rec | apply And.intro | apply EntP.k0 | apply EntP.k1 | apply EntP.k2 | apply EntP.k3 | apply EntP.k4 | apply EntP.k5 | apply EntP.k6 | apply DrawP.go | (apply AnyP.mk; kernel_rfl) | (refine AggP.go 2 rfl (by kernel_rfl) ?_) | (refine AggP.go 1 rfl (by kernel_rfl) ?_) | (refine AggP.go 3 rfl (by kernel_rfl) ?_) | (refine AggP.go 4 rfl (by kernel_rfl) ?_) | (refine AggP.go 5 rfl (by kernel_rfl) ?_) | (refine AggP.go 8 rfl (by kernel_rfl) ?_) | (refine AggP.go 11 rfl (by kernel_rfl) ?_) | apply CallP.own0 | apply CallP.own1 | apply CallP.own2 | apply CallP.own3 | apply CallP.nb | apply CutE.go0 | apply CutE.go7 | apply CutE.go6 | apply CutE.go5 | apply CutE.go4 | apply CutE.go3 | apply CutE.go2 | apply CutE.go1 | apply RoP.id | apply wrapS | (with_reducible exact lenNil) | apply Eq.refl)) | ((first | (with_reducible show rvEq _ _ _ _) | (with_reducible show svEq _ _ _ _) | (with_reducible show cellEq _ _ _ _) | (with_reducible show blkEq _ _ _)); conv => whnf))
    all_goals first
      | exact hok
      | (show W.length ≤ 1000; omega)
      | exact ()
      | (exfalso; exact absurd (by assumption) he)
      | (rw [e1]; rfl)
      | trace_state
  have e1 : (picksF W m).1 = (pkG W m.toNat).1 ∧ (0 < m → SomeF W) := by
    unfold picksF at he ⊢
    split
    · rename_i q
      rw [if_pos q] at he
      exact absurd he (by decide)
    · rename_i q
      rw [if_neg q] at he
      split
      · rename_i q2
        rw [if_pos q2] at he
        exact absurd he (by decide)
      · rename_i q2
        exact ⟨rfl, fun h => by
          by_cases e : SomeF W
          · exact e
          · exact absurd ⟨h, e⟩ q2⟩
  obtain ⟨e1, hS⟩ := e1
  have e2 : picksF W m = ((pkG W m.toNat).1, 0) := Prod.ext e1 he
  have hl1 := (pk_len W m.toNat).1
  have hat := pk_at W m.toNat
  repeat' (first | (intro h; first | exact Bool.noConfusion h | (guard_hyp h : true = true; clear h) | (guard_hyp h : false = false; clear h) | (simp only [decide_eq_true_eq, decide_eq_false_iff_not, beq_iff_eq, beq_eq_false_iff_ne, bne_iff_ne, bne_eq_false_iff_eq, Bool.not_eq_true', Bool.not_eq_false', ne_eq, Classical.not_not, Bool.not_true, Bool.not_false, beqL_iff, beqL_ff, List.cons.injEq, and_true] at h) | skip) | ((conv => whnf) <;> (first | exact True.intro | apply br_rec | apply And.intro | apply EntP.k0 | apply EntP.k1 | apply EntP.k2 | apply EntP.k3 | apply EntP.k4 | apply EntP.k5 | apply EntP.k6 | apply DrawP.go | (apply AnyP.mk; kernel_rfl) | (refine AggP.go 2 rfl (by kernel_rfl) ?_) | (refine AggP.go 1 rfl (by kernel_rfl) ?_) | (refine AggP.go 3 rfl (by kernel_rfl) ?_) | (refine AggP.go 4 rfl (by kernel_rfl) ?_) | (refine AggP.go 5 rfl (by kernel_rfl) ?_) | (refine AggP.go 8 rfl (by kernel_rfl) ?_) | (refine AggP.go 11 rfl (by kernel_rfl) ?_) | apply CallP.own0 | apply CallP.own1 | apply CallP.own2 | apply CallP.own3 | apply CallP.nb | apply CutE.go0 | apply CutE.go7 | apply CutE.go6 | apply CutE.go5 | apply CutE.go4 | apply CutE.go3 | apply CutE.go2 | apply CutE.go1 | apply RoP.id | apply wrapS | (with_reducible exact lenNil) | apply Eq.refl)) | ((first | (with_reducible show rvEq _ _ _ _) | (with_reducible show svEq _ _ _ _) | (with_reducible show cellEq _ _ _ _) | (with_reducible show blkEq _ _ _)); conv => whnf))
  all_goals try first
    | exact hok
    | (show W.length ≤ 1000; omega)
    | (exfalso; exact absurd he (by assumption))
    | (show 0 ≤ (W.length : Int); omega)
    | (show (8 : Int) * (W.length : Int) ≤ _; omega)
    | omega
  apply CutP.up (G := Unit) (fun _ => True) [0, 1, 5, 7, 8] (fun _ => [(7, .c (.osl 0)), (8, .c (.osl 1))]) (fun _ => [(0, .slc 29 1 W.length (slG encF (befG W m.toNat))), (1, .slc 29 1 W.length (slG encF (pkG W m.toNat).2))]) 2
  apply And.intro
  · repeat' (first | (intro h; first | exact Bool.noConfusion h | (guard_hyp h : true = true; clear h) | (guard_hyp h : false = false; clear h) | (simp only [decide_eq_true_eq, decide_eq_false_iff_not, beq_iff_eq, beq_eq_false_iff_ne, bne_iff_ne, bne_eq_false_iff_eq, Bool.not_eq_true', Bool.not_eq_false', ne_eq, Classical.not_not, Bool.not_true, Bool.not_false, beqL_iff, beqL_ff, List.cons.injEq, and_true] at h) | skip) | ((conv => whnf) <;> (first | exact True.intro | apply br_rec | apply And.intro | apply EntP.k0 | apply EntP.k1 | apply EntP.k2 | apply EntP.k3 | apply EntP.k4 | apply EntP.k5 | apply EntP.k6 | apply DrawP.go | (apply AnyP.mk; kernel_rfl) | (refine AggP.go 2 rfl (by kernel_rfl) ?_) | (refine AggP.go 1 rfl (by kernel_rfl) ?_) | (refine AggP.go 3 rfl (by kernel_rfl) ?_) | (refine AggP.go 4 rfl (by kernel_rfl) ?_) | (refine AggP.go 5 rfl (by kernel_rfl) ?_) | (refine AggP.go 8 rfl (by kernel_rfl) ?_) | (refine AggP.go 11 rfl (by kernel_rfl) ?_) | apply CallP.own0 | apply CallP.own1 | apply CallP.own2 | apply CallP.own3 | apply CallP.nb | apply CutE.go0 | apply CutE.go7 | apply CutE.go6 | apply CutE.go5 | apply CutE.go4 | apply CutE.go3 | apply CutE.go2 | apply CutE.go1 | apply RoP.id | apply wrapS | (with_reducible exact lenNil) | apply Eq.refl)) | ((first | (with_reducible show rvEq _ _ _ _) | (with_reducible show svEq _ _ _ _) | (with_reducible show cellEq _ _ _ _) | (with_reducible show blkEq _ _ _)); conv => whnf))
    all_goals try first
      | (show 0 ≤ (W.length : Int); omega)
      | (show (8 : Int) * (W.length : Int) ≤ _; omega)
      | omega
    apply LoopP.up (G := Nat) (fun t => t ≤ m.toNat) [0, 1, 5, 7, 8, 41, 42, 43] (fun t => [(43, .i t)]) (fun t => [(0, .slc 29 1 W.length (slG encF (befG W t))), (1, .slc 29 1 W.length (slG encF (pkG W t).2))]) 2 (fun t => m.toNat - t)
    apply And.intro
    · refine CutE.at 0 ?_
      repeat' (first | (intro h; first | exact Bool.noConfusion h | (guard_hyp h : true = true; clear h) | (guard_hyp h : false = false; clear h) | (simp only [decide_eq_true_eq, decide_eq_false_iff_not, beq_iff_eq, beq_eq_false_iff_ne, bne_iff_ne, bne_eq_false_iff_eq, Bool.not_eq_true', Bool.not_eq_false', ne_eq, Classical.not_not, Bool.not_true, Bool.not_false, beqL_iff, beqL_ff, List.cons.injEq, and_true] at h) | skip) | ((conv => whnf) <;> (first | exact True.intro | apply br_rec | apply And.intro | apply EntP.k0 | apply EntP.k1 | apply EntP.k2 | apply EntP.k3 | apply EntP.k4 | apply EntP.k5 | apply EntP.k6 | apply DrawP.go | (apply AnyP.mk; kernel_rfl) | (refine AggP.go 2 rfl (by kernel_rfl) ?_) | (refine AggP.go 1 rfl (by kernel_rfl) ?_) | (refine AggP.go 3 rfl (by kernel_rfl) ?_) | (refine AggP.go 4 rfl (by kernel_rfl) ?_) | (refine AggP.go 5 rfl (by kernel_rfl) ?_) | (refine AggP.go 8 rfl (by kernel_rfl) ?_) | (refine AggP.go 11 rfl (by kernel_rfl) ?_) | apply CallP.own0 | apply CallP.own1 | apply CallP.own2 | apply CallP.own3 | apply CallP.nb | apply CutE.go0 | apply CutE.go7 | apply CutE.go6 | apply CutE.go5 | apply CutE.go4 | apply CutE.go3 | apply CutE.go2 | apply CutE.go1 | apply RoP.id | apply wrapS | (with_reducible exact lenNil) | apply Eq.refl)) | ((first | (with_reducible show rvEq _ _ _ _) | (with_reducible show svEq _ _ _ _) | (with_reducible show cellEq _ _ _ _) | (with_reducible show blkEq _ _ _)); conv => whnf))
      all_goals first
        | exact Nat.zero_le _
        | rfl
        | (show slG encF (List.replicate W.length 0) _ _ = [Cell.f 0].getD _ Cell.any; exact slG_repF (by assumption) (by assumption))
        | trace_state
    intro t ht
    have ht : t ≤ m.toNat := ht
    by_cases htm : t < m.toNat
    · have hs : SomeF W := hS (by omega)
      have hI := pkI hok hs t
      obtain ⟨s1, s2, s3, s4, s5⟩ := step_ok hok hI.pl hI.le hs
      obtain ⟨f1, f2, f3⟩ := first_some hI.pl hs
      have ha := hat t htm
      have b1 : befG W (t + 1) = (befG W t).set (firstF (cntF W) (pkG W t).2).toNat ((pkG W t).2.getD (firstF (cntF W) (pkG W t).2).toNat default) := rfl
      have b2 : (pkG W (t + 1)).2 = passS W (pkG W t).2 := rfl
      have b3 := bef_len W t
      have b4 := hI.pl
      rw [← ha] at s1 s2 s3 s4 s5 f1 f2 f3 b1
      have f3 : fGt (W.getD ((pkG W m.toNat).1.getD t default).toNat default) 0 = true := f3
      have b2 : (pkG W (t + 1)).2 = (pkG W t).2.set ((pkG W m.toNat).1.getD t default).toNat (fAdd ((pkG W t).2.getD ((pkG W m.toNat).1.getD t default).toNat default) (fDiv 4607182418800017408 (W.getD ((pkG W m.toNat).1.getD t default).toNat default))) := by rw [b2, ha]; rfl
      repeat' (first | (intro h; first | exact Bool.noConfusion h | (guard_hyp h : true = true; clear h) | (guard_hyp h : false = false; clear h) | (simp only [decide_eq_true_eq, decide_eq_false_iff_not, beq_iff_eq, beq_eq_false_iff_ne, bne_iff_ne, bne_eq_false_iff_eq, Bool.not_eq_true', Bool.not_eq_false', ne_eq, Classical.not_not, Bool.not_true, Bool.not_false, beqL_iff, beqL_ff, List.cons.injEq, and_true] at h) | skip) | ((conv => whnf) <;> (first | exact True.intro | apply br_rec | apply And.intro | refine CutE.at (A := Nat) (t + 1) ?_ | apply EntP.k0 | apply EntP.k1 | apply EntP.k2 | apply EntP.k3 | apply EntP.k4 | apply EntP.k5 | apply EntP.k6 | apply DrawP.go | (apply AnyP.mk; kernel_rfl) | (refine AggP.go 2 rfl (by kernel_rfl) ?_) | (refine AggP.go 1 rfl (by kernel_rfl) ?_) | (refine AggP.go 3 rfl (by kernel_rfl) ?_) | (refine AggP.go 4 rfl (by kernel_rfl) ?_) | (refine AggP.go 5 rfl (by kernel_rfl) ?_) | (refine AggP.go 8 rfl (by kernel_rfl) ?_) | (refine AggP.go 11 rfl (by kernel_rfl) ?_) | apply CallP.own0 | apply CallP.own1 | apply CallP.own2 | apply CallP.own3 | apply CallP.nb | apply CutE.go0 | apply CutE.go7 | apply CutE.go6 | apply CutE.go5 | apply CutE.go4 | apply CutE.go3 | apply CutE.go2 | apply CutE.go1 | apply RoP.id | apply wrapS | (with_reducible exact lenNil) | apply Eq.refl)) | ((first | (with_reducible show rvEq _ _ _ _) | (with_reducible show svEq _ _ _ _) | (with_reducible show cellEq _ _ _ _) | (with_reducible show blkEq _ _ _)); conv => whnf))
      all_goals try simp only [Int.toNat_natCast, e1] at *
      all_goals first
        | omega
        | exact s1
        | exact s3
        | (show m.toNat - (t + 1) < m.toNat - t; omega)
        | (show t + 1 ≤ m.toNat; omega)
        | (rw [b1]; exact (slG_set (enc := encF) (k := 1) (fun _ => rfl) (by omega) _ (by omega) _ (by assumption)).symm)
        | (rw [b2]; exact (slG_set (enc := encF) (k := 1) (fun _ => rfl) (by omega) _ (by omega) _ (by assumption)).symm)
        | (exfalso; omega)
        | (exfalso; rename_i q; exact absurd (f3.symm.trans q) Bool.noConfusion)
        | (exfalso; exact absurd (f3.symm.trans (by assumption)) Bool.noConfusion)
        | trace_state
    · have e : m.toNat = t := by omega
      repeat' (first | (intro h; first | exact Bool.noConfusion h | (guard_hyp h : true = true; clear h) | (guard_hyp h : false = false; clear h) | (simp only [decide_eq_true_eq, decide_eq_false_iff_not, beq_iff_eq, beq_eq_false_iff_ne, bne_iff_ne, bne_eq_false_iff_eq, Bool.not_eq_true', Bool.not_eq_false', ne_eq, Classical.not_not, Bool.not_true, Bool.not_false, beqL_iff, beqL_ff, List.cons.injEq, and_true] at h) | skip) | ((conv => whnf) <;> (first | exact True.intro | apply br_rec | apply And.intro | refine CutE.at (A := Unit) () ?_ | apply EntP.k0 | apply EntP.k1 | apply EntP.k2 | apply EntP.k3 | apply EntP.k4 | apply EntP.k5 | apply EntP.k6 | apply DrawP.go | (apply AnyP.mk; kernel_rfl) | (refine AggP.go 2 rfl (by kernel_rfl) ?_) | (refine AggP.go 1 rfl (by kernel_rfl) ?_) | (refine AggP.go 3 rfl (by kernel_rfl) ?_) | (refine AggP.go 4 rfl (by kernel_rfl) ?_) | (refine AggP.go 5 rfl (by kernel_rfl) ?_) | (refine AggP.go 8 rfl (by kernel_rfl) ?_) | (refine AggP.go 11 rfl (by kernel_rfl) ?_) | apply CallP.own0 | apply CallP.own1 | apply CallP.own2 | apply CallP.own3 | apply CallP.nb | apply CutE.go0 | apply CutE.go7 | apply CutE.go6 | apply CutE.go5 | apply CutE.go4 | apply CutE.go3 | apply CutE.go2 | apply CutE.go1 | apply RoP.id | apply wrapS | (with_reducible exact lenNil) | apply Eq.refl)) | ((first | (with_reducible show rvEq _ _ _ _) | (with_reducible show svEq _ _ _ _) | (with_reducible show cellEq _ _ _ _) | (with_reducible show blkEq _ _ _)); conv => whnf))
      all_goals try simp only [Int.toNat_natCast, e1] at *
      all_goals first
        | omega
        | (exfalso; omega)
        | (rw [e]; done)
        | trace_state
  rintro ⟨⟩ _
  repeat' (first | (intro h; first | exact Bool.noConfusion h | (guard_hyp h : true = true; clear h) | (guard_hyp h : false = false; clear h) | (simp only [decide_eq_true_eq, decide_eq_false_iff_not, beq_iff_eq, beq_eq_false_iff_ne, bne_iff_ne, bne_eq_false_iff_eq, Bool.not_eq_true', Bool.not_eq_false', ne_eq, Classical.not_not, Bool.not_true, Bool.not_false, beqL_iff, beqL_ff, List.cons.injEq, and_true] at h) | skip) | ((conv => whnf) <;> (first | exact True.intro | apply br_rec | apply And.intro | apply EntP.k0 | apply EntP.k1 | apply EntP.k2 | apply EntP.k3 | apply EntP.k4 | apply EntP.k5 | apply EntP.k6 | apply DrawP.go | (apply AnyP.mk; kernel_rfl) | (refine AggP.go 2 rfl (by kernel_rfl) ?_) | (refine AggP.go 1 rfl (by kernel_rfl) ?_) | (refine AggP.go 3 rfl (by kernel_rfl) ?_) | (refine AggP.go 4 rfl (by kernel_rfl) ?_) | (refine AggP.go 5 rfl (by kernel_rfl) ?_) | (refine AggP.go 8 rfl (by kernel_rfl) ?_) | (refine AggP.go 11 rfl (by kernel_rfl) ?_) | apply CallP.own0 | apply CallP.own1 | apply CallP.own2 | apply CallP.own3 | apply CallP.nb | apply CutE.go0 | apply CutE.go7 | apply CutE.go6 | apply CutE.go5 | apply CutE.go4 | apply CutE.go3 | apply CutE.go2 | apply CutE.go1 | apply RoP.id | apply wrapS | (with_reducible exact lenNil) | apply Eq.refl)) | ((first | (with_reducible show rvEq _ _ _ _) | (with_reducible show svEq _ _ _ _) | (with_reducible show cellEq _ _ _ _) | (with_reducible show blkEq _ _ _)); conv => whnf))
  apply LoopP.up (G := Nat × Unit) (fun i => i.1 ≤ W.length) [0, 1, 5, 7, 8, 84, 85, 86] (fun i => [(86, .i i.1)]) (fun _ => []) 2 (fun i => W.length - i.1)
  apply And.intro
  · refine CutE.at (0, ()) ?_
    repeat' (first | (intro h; first | exact Bool.noConfusion h | (guard_hyp h : true = true; clear h) | (guard_hyp h : false = false; clear h) | (simp only [decide_eq_true_eq, decide_eq_false_iff_not, beq_iff_eq, beq_eq_false_iff_ne, bne_iff_ne, bne_eq_false_iff_eq, Bool.not_eq_true', Bool.not_eq_false', ne_eq, Classical.not_not, Bool.not_true, Bool.not_false, beqL_iff, beqL_ff, List.cons.injEq, and_true] at h) | skip) | ((conv => whnf) <;> (first | exact True.intro | apply br_rec | apply And.intro | apply EntP.k0 | apply EntP.k1 | apply EntP.k2 | apply EntP.k3 | apply EntP.k4 | apply EntP.k5 | apply EntP.k6 | apply DrawP.go | (apply AnyP.mk; kernel_rfl) | (refine AggP.go 2 rfl (by kernel_rfl) ?_) | (refine AggP.go 1 rfl (by kernel_rfl) ?_) | (refine AggP.go 3 rfl (by kernel_rfl) ?_) | (refine AggP.go 4 rfl (by kernel_rfl) ?_) | (refine AggP.go 5 rfl (by kernel_rfl) ?_) | (refine AggP.go 8 rfl (by kernel_rfl) ?_) | (refine AggP.go 11 rfl (by kernel_rfl) ?_) | apply CallP.own0 | apply CallP.own1 | apply CallP.own2 | apply CallP.own3 | apply CallP.nb | apply CutE.go0 | apply CutE.go7 | apply CutE.go6 | apply CutE.go5 | apply CutE.go4 | apply CutE.go3 | apply CutE.go2 | apply CutE.go1 | apply RoP.id | apply wrapS | (with_reducible exact lenNil) | apply Eq.refl)) | ((first | (with_reducible show rvEq _ _ _ _) | (with_reducible show svEq _ _ _ _) | (with_reducible show cellEq _ _ _ _) | (with_reducible show blkEq _ _ _)); conv => whnf))
    all_goals first | exact Nat.zero_le _ | rfl | trace_state
  rintro ⟨i, _⟩ hi
  have hi : i ≤ W.length := hi
  by_cases hiW : i < W.length
  · repeat' (first | (intro h; first | exact Bool.noConfusion h | (guard_hyp h : true = true; clear h) | (guard_hyp h : false = false; clear h) | (simp only [decide_eq_true_eq, decide_eq_false_iff_not, beq_iff_eq, beq_eq_false_iff_ne, bne_iff_ne, bne_eq_false_iff_eq, Bool.not_eq_true', Bool.not_eq_false', ne_eq, Classical.not_not, Bool.not_true, Bool.not_false, beqL_iff, beqL_ff, List.cons.injEq, and_true] at h) | skip) | ((conv => whnf) <;> (first | exact True.intro | apply br_rec | apply And.intro | apply EntP.k0 | apply EntP.k1 | apply EntP.k2 | apply EntP.k3 | apply EntP.k4 | apply EntP.k5 | apply EntP.k6 | apply DrawP.go | (apply AnyP.mk; kernel_rfl) | (refine AggP.go 2 rfl (by kernel_rfl) ?_) | (refine AggP.go 1 rfl (by kernel_rfl) ?_) | (refine AggP.go 3 rfl (by kernel_rfl) ?_) | (refine AggP.go 4 rfl (by kernel_rfl) ?_) | (refine AggP.go 5 rfl (by kernel_rfl) ?_) | (refine AggP.go 8 rfl (by kernel_rfl) ?_) | (refine AggP.go 11 rfl (by kernel_rfl) ?_) | apply CallP.own0 | apply CallP.own1 | apply CallP.own2 | apply CallP.own3 | apply CallP.nb | apply CutE.go0 | apply CutE.go7 | apply CutE.go6 | apply CutE.go5 | apply CutE.go4 | apply CutE.go3 | apply CutE.go2 | apply CutE.go1 | apply RoP.id | apply wrapS | (with_reducible exact lenNil) | apply Eq.refl)) | ((first | (with_reducible show rvEq _ _ _ _) | (with_reducible show svEq _ _ _ _) | (with_reducible show cellEq _ _ _ _) | (with_reducible show blkEq _ _ _)); conv => whnf))
    all_goals try simp only [Int.toNat_natCast] at *
    all_goals try first | omega | (exfalso; omega)
    apply LoopP.up (G := Nat × Unit × Unit) (fun j => j.1 ≤ W.length) [0, 1, 5, 7, 8, 11, 12, 84, 85, 86, 91, 92, 93] (fun j => [(93, .i j.1)]) (fun _ => []) 2 (fun j => W.length - j.1)
    apply And.intro
    · refine CutE.at (0, (), ()) ?_
      repeat' (first | (intro h; first | exact Bool.noConfusion h | (guard_hyp h : true = true; clear h) | (guard_hyp h : false = false; clear h) | (simp only [decide_eq_true_eq, decide_eq_false_iff_not, beq_iff_eq, beq_eq_false_iff_ne, bne_iff_ne, bne_eq_false_iff_eq, Bool.not_eq_true', Bool.not_eq_false', ne_eq, Classical.not_not, Bool.not_true, Bool.not_false, beqL_iff, beqL_ff, List.cons.injEq, and_true] at h) | skip) | ((conv => whnf) <;> (first | exact True.intro | apply br_rec | apply And.intro | apply EntP.k0 | apply EntP.k1 | apply EntP.k2 | apply EntP.k3 | apply EntP.k4 | apply EntP.k5 | apply EntP.k6 | apply DrawP.go | (apply AnyP.mk; kernel_rfl) | (refine AggP.go 2 rfl (by kernel_rfl) ?_) | (refine AggP.go 1 rfl (by kernel_rfl) ?_) | (refine AggP.go 3 rfl (by kernel_rfl) ?_) | (refine AggP.go 4 rfl (by kernel_rfl) ?_) | (refine AggP.go 5 rfl (by kernel_rfl) ?_) | (refine AggP.go 8 rfl (by kernel_rfl) ?_) | (refine AggP.go 11 rfl (by kernel_rfl) ?_) | apply CallP.own0 | apply CallP.own1 | apply CallP.own2 | apply CallP.own3 | apply CallP.nb | apply CutE.go0 | apply CutE.go7 | apply CutE.go6 | apply CutE.go5 | apply CutE.go4 | apply CutE.go3 | apply CutE.go2 | apply CutE.go1 | apply RoP.id | apply wrapS | (with_reducible exact lenNil) | apply Eq.refl)) | ((first | (with_reducible show rvEq _ _ _ _) | (with_reducible show svEq _ _ _ _) | (with_reducible show cellEq _ _ _ _) | (with_reducible show blkEq _ _ _)); conv => whnf))
      all_goals first | exact Nat.zero_le _ | rfl | trace_state
    rintro ⟨j, _, _⟩ hj
    have hj : j ≤ W.length := hj
    have hno := fun h1 h2 h3 => fair_no hok m.toNat i j h1 h2 hiW h3
    repeat' (first | (intro h; first | exact Bool.noConfusion h | (guard_hyp h : true = true; clear h) | (guard_hyp h : false = false; clear h) | (simp only [decide_eq_true_eq, decide_eq_false_iff_not, beq_iff_eq, beq_eq_false_iff_ne, bne_iff_ne, bne_eq_false_iff_eq, Bool.not_eq_true', Bool.not_eq_false', ne_eq, Classical.not_not, Bool.not_true, Bool.not_false, beqL_iff, beqL_ff, List.cons.injEq, and_true] at h) | skip) | ((conv => whnf) <;> (first | exact True.intro | apply br_rec | apply And.intro | refine CutE.at (A := Nat × Unit × Unit) (j + 1, (), ()) ?_ | refine CutE.at (A := Nat × Unit) (i + 1, ()) ?_ | apply EntP.k0 | apply EntP.k1 | apply EntP.k2 | apply EntP.k3 | apply EntP.k4 | apply EntP.k5 | apply EntP.k6 | apply DrawP.go | (apply AnyP.mk; kernel_rfl) | (refine AggP.go 2 rfl (by kernel_rfl) ?_) | (refine AggP.go 1 rfl (by kernel_rfl) ?_) | (refine AggP.go 3 rfl (by kernel_rfl) ?_) | (refine AggP.go 4 rfl (by kernel_rfl) ?_) | (refine AggP.go 5 rfl (by kernel_rfl) ?_) | (refine AggP.go 8 rfl (by kernel_rfl) ?_) | (refine AggP.go 11 rfl (by kernel_rfl) ?_) | apply CallP.own0 | apply CallP.own1 | apply CallP.own2 | apply CallP.own3 | apply CallP.nb | apply CutE.go0 | apply CutE.go7 | apply CutE.go6 | apply CutE.go5 | apply CutE.go4 | apply CutE.go3 | apply CutE.go2 | apply CutE.go1 | apply RoP.id | apply wrapS | (with_reducible exact lenNil) | apply Eq.refl)) | ((first | (with_reducible show rvEq _ _ _ _) | (with_reducible show svEq _ _ _ _) | (with_reducible show cellEq _ _ _ _) | (with_reducible show blkEq _ _ _)); conv => whnf))
    all_goals try simp only [Int.toNat_natCast] at *
    all_goals first
      | omega
      | (show 0 ≤ (j : Int); omega)
      | (show (j : Int) < W.length; omega)
      | (show (Int.toNat (j : Int)) < W.length; omega)
      | (exfalso; exact (Bool.eq_false_iff.1 (hno (by omega) (by assumption) (by assumption))) (by assumption))
      | (show W.length - (j + 1) < W.length - j; omega)
      | (show j + 1 ≤ W.length; omega)
      | (show W.length - (i + 1) < W.length - i; omega)
      | (show i + 1 ≤ W.length; omega)
      | trace_state
  · repeat' (first | (intro h; first | exact Bool.noConfusion h | (guard_hyp h : true = true; clear h) | (guard_hyp h : false = false; clear h) | (simp only [decide_eq_true_eq, decide_eq_false_iff_not, beq_iff_eq, beq_eq_false_iff_ne, bne_iff_ne, bne_eq_false_iff_eq, Bool.not_eq_true', Bool.not_eq_false', ne_eq, Classical.not_not, Bool.not_true, Bool.not_false, beqL_iff, beqL_ff, List.cons.injEq, and_true] at h) | skip) | ((conv => whnf) <;> (first | exact True.intro | apply br_rec | apply And.intro | refine CutE.at (A := Nat × Unit) (i + 1, ()) ?_ | apply EntP.k0 | apply EntP.k1 | apply EntP.k2 | apply EntP.k3 | apply EntP.k4 | apply EntP.k5 | apply EntP.k6 | apply DrawP.go | (apply AnyP.mk; kernel_rfl) | (refine AggP.go 2 rfl (by kernel_rfl) ?_) | (refine AggP.go 1 rfl (by kernel_rfl) ?_) | (refine AggP.go 3 rfl (by kernel_rfl) ?_) | (refine AggP.go 4 rfl (by kernel_rfl) ?_) | (refine AggP.go 5 rfl (by kernel_rfl) ?_) | (refine AggP.go 8 rfl (by kernel_rfl) ?_) | (refine AggP.go 11 rfl (by kernel_rfl) ?_) | apply CallP.own0 | apply CallP.own1 | apply CallP.own2 | apply CallP.own3 | apply CallP.nb | apply CutE.go0 | apply CutE.go7 | apply CutE.go6 | apply CutE.go5 | apply CutE.go4 | apply CutE.go3 | apply CutE.go2 | apply CutE.go1 | apply RoP.id | apply wrapS | (with_reducible exact lenNil) | apply Eq.refl)) | ((first | (with_reducible show rvEq _ _ _ _) | (with_reducible show svEq _ _ _ _) | (with_reducible show cellEq _ _ _ _) | (with_reducible show blkEq _ _ _)); conv => whnf))
    all_goals try simp only [Int.toNat_natCast, e1] at *
    all_goals first
      | omega
      | (exfalso; omega)
      | exact ()
      | (apply decide_eq_true; omega)
      | (symm; apply decide_eq_true; omega)
      | trace_state
end Go.Eng
