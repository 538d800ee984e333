/- The reference's spans, walked. -/
import Derived.Test.YthhangpcedbhdaaHiG
set_option linter.unusedVariables false
set_option linter.unusedSimpArgs false
namespace Go.Eng
open Go Go.Proofs

theorem endG_stay {l : List Ev} {th : Int} {i k : Nat} (h : 0 ≤ endG l th i k) : ∀ n, k ≤ n → endG l th i n = endG l th i k
  | 0, hn => by rw [show k = 0 by omega]
  | n + 1, hn => by
    by_cases e : k = n + 1
    · rw [e]
    · have := endG_stay h n (by omega)
      rw [endG, if_neg (fun q => by have := q.1; omega), this]
theorem mkG_stay {l : List Ev} {i k n : Nat} (h : 0 ≤ (mkG l k i).to) (hn : k ≤ n) : mkG l k i = mkG l n i := by
  have e := endG_stay (l := l) (th := (l.getD i default).2.1) (i := i) (k := k) h n hn
  unfold mkG
  rw [e]
theorem mkG_new (l : List Ev) (i : Nat) : mkG l (i + 1) i = ⟨(l.getD i default).2.1, cK l (l.getD i default).2.1 0 i, (l.getD i default).2.2.1, (l.getD i default).2.2.2.1, (l.getD i default).2.2.2.2.1, (l.getD i default).2.2.2.2.2, 0, 0, i, -1⟩ := by
  unfold mkG
  rw [endG_none l _ i (i + 1) (Nat.le_refl _)]
  rfl
def outR (l : List Ev) (i : Nat) : List Sp := (beg l i).map (mkG l l.length)
theorem outR_len (l : List Ev) : ∀ i, (outR l i).length ≤ i
  | 0 => Nat.le_refl _
  | i + 1 => by
    have := outR_len l i
    unfold outR at this ⊢
    rw [List.length_map] at this ⊢
    unfold beg
    split
    · rw [List.length_append]; simp only [List.length_cons, List.length_nil]; omega
    · omega
theorem outR_yes {l : List Ev} {i : Nat} (h : (l.getD i default).1 = 0) : outR l (i + 1) = outR l i ++ [mkG l l.length i] := by
  unfold outR
  rw [beg, if_pos h, List.map_append]; rfl
theorem outR_no {l : List Ev} {i : Nat} (h : ¬ (l.getD i default).1 = 0) : outR l (i + 1) = outR l i := by
  unfold outR
  rw [beg, if_neg h]
def sRSpans : FSpec := spec (List Ev) (fun l => [.c (evsS l)]) (fun l => l.length ≤ 1000) fun l => .c (spsS (spG l l.length))
set_option maxHeartbeats 8000000 in
set_option maxRecDepth 100000 in
theorem rspans_ok : Meets Try.prog 50 sRSpans := by
  refine meets_plain H6_ok rfl [14] (fn := Try.f50) rfl rfl rfl (by decide) fun l hl => ?_
  have hl : l.length ≤ 1000 := hl
  repeat' (first | (intro h; first | exact Bool.noConfusion h | (guard_hyp h : true = true; clear h) | (guard_hyp h : false = false; clear h) | (simp only [decide_eq_true_eq, decide_eq_false_iff_not, beq_iff_eq, beq_eq_false_iff_ne, bne_iff_ne, bne_eq_false_iff_eq, Bool.not_eq_true', Bool.not_eq_false', ne_eq, Classical.not_not, Bool.not_true, Bool.not_false, beqL_iff, beqL_ff, List.cons.injEq, and_true] at h) | skip) | ((conv => whnf) <;> (first | exact True.intro | apply br_rec | apply And.intro | apply EntP.k0 | apply EntP.k1 | apply EntP.k2 | apply EntP.k3 | apply EntP.k4 | apply EntP.k5 | apply EntP.k6 | apply DrawP.go | (apply AnyP.mk; kernel_rfl) | (refine AggP.go 2 rfl (by kernel_rfl) ?_) | (refine AggP.go 1 rfl (by kernel_rfl) ?_) | (refine AggP.go 3 rfl (by kernel_rfl) ?_) | (refine AggP.go 4 rfl (by kernel_rfl) ?_) | (refine AggP.go 5 rfl (by kernel_rfl) ?_) | (refine AggP.go 8 rfl (by kernel_rfl) ?_) | (refine AggP.go 11 rfl (by kernel_rfl) ?_) | (refine AggP.go 10 rfl (by kernel_rfl) ?_) | (refine PairP.go (by kernel_rfl) ?_) | apply CallP.own0 | apply CallP.own1 | apply CallP.own2 | apply CallP.own3 | apply CallP.nb | apply CutE.go0 | apply CutE.go7 | apply CutE.go6 | apply CutE.go5 | apply CutE.go4 | apply CutE.go3 | apply CutE.go2 | apply CutE.go1 | apply RoP.id | apply wrapS | (with_reducible exact lenNil) | apply Eq.refl)) | ((first | (with_reducible show rvEq _ _ _ _) | (with_reducible show svEq _ _ _ _) | (with_reducible show cellEq _ _ _ _) | (with_reducible show blkEq _ _ _)); conv => whnf))
  all_goals try omega
  apply LoopP.up (G := Nat) (fun i => i ≤ l.length) [0, 3, 9, 10, 11] (fun i => [(3, .c (.osl 0)), (11, .i i)]) (fun i => [(0, .slc 39 10 (outR l i).length (slG encSp (outR l i)))]) 1 (fun i => l.length - i)
  apply And.intro
  · refine CutE.at 0 ?_
    repeat' (first | (intro h; first | exact Bool.noConfusion h | (guard_hyp h : true = true; clear h) | (guard_hyp h : false = false; clear h) | (simp only [decide_eq_true_eq, decide_eq_false_iff_not, beq_iff_eq, beq_eq_false_iff_ne, bne_iff_ne, bne_eq_false_iff_eq, Bool.not_eq_true', Bool.not_eq_false', ne_eq, Classical.not_not, Bool.not_true, Bool.not_false, beqL_iff, beqL_ff, List.cons.injEq, and_true] at h) | skip) | ((conv => whnf) <;> (first | exact True.intro | apply br_rec | apply And.intro | apply EntP.k0 | apply EntP.k1 | apply EntP.k2 | apply EntP.k3 | apply EntP.k4 | apply EntP.k5 | apply EntP.k6 | apply DrawP.go | (apply AnyP.mk; kernel_rfl) | (refine AggP.go 2 rfl (by kernel_rfl) ?_) | (refine AggP.go 1 rfl (by kernel_rfl) ?_) | (refine AggP.go 3 rfl (by kernel_rfl) ?_) | (refine AggP.go 4 rfl (by kernel_rfl) ?_) | (refine AggP.go 5 rfl (by kernel_rfl) ?_) | (refine AggP.go 8 rfl (by kernel_rfl) ?_) | (refine AggP.go 11 rfl (by kernel_rfl) ?_) | (refine AggP.go 10 rfl (by kernel_rfl) ?_) | (refine PairP.go (by kernel_rfl) ?_) | apply CallP.own0 | apply CallP.own1 | apply CallP.own2 | apply CallP.own3 | apply CallP.nb | apply CutE.go0 | apply CutE.go7 | apply CutE.go6 | apply CutE.go5 | apply CutE.go4 | apply CutE.go3 | apply CutE.go2 | apply CutE.go1 | apply RoP.id | apply wrapS | (with_reducible exact lenNil) | apply Eq.refl)) | ((first | (with_reducible show rvEq _ _ _ _) | (with_reducible show svEq _ _ _ _) | (with_reducible show cellEq _ _ _ _) | (with_reducible show blkEq _ _ _)); conv => whnf))
    all_goals first
      | exact Nat.zero_le _
      | (rename_i i hi t; exact absurd hi (Nat.not_lt_zero _))
      | rfl
      | trace_state
  intro i hi
  have hi : i ≤ l.length := hi
  have hol := outR_len l i
  by_cases hil : i < l.length
  · by_cases h0 : (l.getD i default).1 = 0
    · have hc0 : cK (l.take i) (l.getD i default).2.1 0 (l.take i).length = cK l (l.getD i default).2.1 0 i := cK_len hi
      have hlk : (l.take i).length = i := by rw [List.length_take]; omega
      have hcell : ∀ k t, k < (l.take i).length → slG encEv (l.take i) k t = slG encEv l (Int.toNat 0 + k) t := fun k t hk => by
        rw [slG_take _ _ _ _ (by rw [List.length_take] at hk; omega)]
        simp
      have hoy := outR_yes h0
      have hw : IntKind.i64.wrap ((i : Int) + 1) = ((i + 1 : Nat) : Int) := by rw [wrap_i64 (by omega)]; omega
      repeat' (first | (intro h; first | exact Bool.noConfusion h | (guard_hyp h : true = true; clear h) | (guard_hyp h : false = false; clear h) | (simp only [decide_eq_true_eq, decide_eq_false_iff_not, beq_iff_eq, beq_eq_false_iff_ne, bne_iff_ne, bne_eq_false_iff_eq, Bool.not_eq_true', Bool.not_eq_false', ne_eq, Classical.not_not, Bool.not_true, Bool.not_false, beqL_iff, beqL_ff, List.cons.injEq, and_true] at h) | skip) | ((conv => whnf) <;> (first | exact True.intro | apply br_rec | apply And.intro | refine CutE.goL (l.take i) ?_ | apply EntP.k0 | apply EntP.k1 | apply EntP.k2 | apply EntP.k3 | apply EntP.k4 | apply EntP.k5 | apply EntP.k6 | apply DrawP.go | (apply AnyP.mk; kernel_rfl) | (refine AggP.go 2 rfl (by kernel_rfl) ?_) | (refine AggP.go 1 rfl (by kernel_rfl) ?_) | (refine AggP.go 3 rfl (by kernel_rfl) ?_) | (refine AggP.go 4 rfl (by kernel_rfl) ?_) | (refine AggP.go 5 rfl (by kernel_rfl) ?_) | (refine AggP.go 8 rfl (by kernel_rfl) ?_) | (refine AggP.go 11 rfl (by kernel_rfl) ?_) | (refine AggP.go 10 rfl (by kernel_rfl) ?_) | (refine PairP.go (by kernel_rfl) ?_) | apply CallP.own0 | apply CallP.own1 | apply CallP.own2 | apply CallP.own3 | apply CallP.nb | apply CutE.go0 | apply CutE.go7 | apply CutE.go6 | apply CutE.go5 | apply CutE.go4 | apply CutE.go3 | apply CutE.go2 | apply CutE.go1 | apply RoP.id | apply wrapS | (with_reducible exact lenNil) | apply Eq.refl)) | ((first | (with_reducible show rvEq _ _ _ _) | (with_reducible show svEq _ _ _ _) | (with_reducible show cellEq _ _ _ _) | (with_reducible show blkEq _ _ _)); conv => whnf))
      all_goals try simp only [Int.toNat_natCast] at *
      all_goals try first
        | (exfalso; omega)
        | omega
        | exact hcell _ _ (by assumption)
        | (rw [hlk]; simp; done)
        | (show (l.take i).length ≤ 1000; omega)
      apply CutP.up (G := Unit) (fun _ => True) [0, 3, 6, 9, 10, 11] (fun _ => []) (fun _ => [(2, .row 39 (encSp (mkG l l.length i)))]) 3
      apply And.intro
      · repeat' (first | (intro h; first | exact Bool.noConfusion h | (guard_hyp h : true = true; clear h) | (guard_hyp h : false = false; clear h) | (simp only [decide_eq_true_eq, decide_eq_false_iff_not, beq_iff_eq, beq_eq_false_iff_ne, bne_iff_ne, bne_eq_false_iff_eq, Bool.not_eq_true', Bool.not_eq_false', ne_eq, Classical.not_not, Bool.not_true, Bool.not_false, beqL_iff, beqL_ff, List.cons.injEq, and_true] at h) | skip) | ((conv => whnf) <;> (first | exact True.intro | apply br_rec | apply And.intro | apply EntP.k0 | apply EntP.k1 | apply EntP.k2 | apply EntP.k3 | apply EntP.k4 | apply EntP.k5 | apply EntP.k6 | apply DrawP.go | (apply AnyP.mk; kernel_rfl) | (refine AggP.go 2 rfl (by kernel_rfl) ?_) | (refine AggP.go 1 rfl (by kernel_rfl) ?_) | (refine AggP.go 3 rfl (by kernel_rfl) ?_) | (refine AggP.go 4 rfl (by kernel_rfl) ?_) | (refine AggP.go 5 rfl (by kernel_rfl) ?_) | (refine AggP.go 8 rfl (by kernel_rfl) ?_) | (refine AggP.go 11 rfl (by kernel_rfl) ?_) | (refine AggP.go 10 rfl (by kernel_rfl) ?_) | (refine PairP.go (by kernel_rfl) ?_) | apply CallP.own0 | apply CallP.own1 | apply CallP.own2 | apply CallP.own3 | apply CallP.nb | apply CutE.go0 | apply CutE.go7 | apply CutE.go6 | apply CutE.go5 | apply CutE.go4 | apply CutE.go3 | apply CutE.go2 | apply CutE.go1 | apply RoP.id | apply wrapS | (with_reducible exact lenNil) | apply Eq.refl)) | ((first | (with_reducible show rvEq _ _ _ _) | (with_reducible show svEq _ _ _ _) | (with_reducible show cellEq _ _ _ _) | (with_reducible show blkEq _ _ _)); conv => whnf))
        all_goals try first | omega | (rw [hw]; omega)
        apply LoopP.up (G := Nat × Unit) (fun k => i + 1 ≤ k.1 ∧ k.1 ≤ l.length) [0, 3, 5, 6, 7, 9, 10, 11] (fun k => [(7, .i k.1)]) (fun k => [(2, .row 39 (encSp (mkG l k.1 i)))]) 3 (fun k => l.length - k.1)
        apply And.intro
        · refine CutE.at (i + 1, ()) ?_
          repeat' (first | (intro h; first | exact Bool.noConfusion h | (guard_hyp h : true = true; clear h) | (guard_hyp h : false = false; clear h) | (simp only [decide_eq_true_eq, decide_eq_false_iff_not, beq_iff_eq, beq_eq_false_iff_ne, bne_iff_ne, bne_eq_false_iff_eq, Bool.not_eq_true', Bool.not_eq_false', ne_eq, Classical.not_not, Bool.not_true, Bool.not_false, beqL_iff, beqL_ff, List.cons.injEq, and_true] at h) | skip) | ((conv => whnf) <;> (first | exact True.intro | apply br_rec | apply And.intro | apply EntP.k0 | apply EntP.k1 | apply EntP.k2 | apply EntP.k3 | apply EntP.k4 | apply EntP.k5 | apply EntP.k6 | apply DrawP.go | (apply AnyP.mk; kernel_rfl) | (refine AggP.go 2 rfl (by kernel_rfl) ?_) | (refine AggP.go 1 rfl (by kernel_rfl) ?_) | (refine AggP.go 3 rfl (by kernel_rfl) ?_) | (refine AggP.go 4 rfl (by kernel_rfl) ?_) | (refine AggP.go 5 rfl (by kernel_rfl) ?_) | (refine AggP.go 8 rfl (by kernel_rfl) ?_) | (refine AggP.go 11 rfl (by kernel_rfl) ?_) | (refine AggP.go 10 rfl (by kernel_rfl) ?_) | (refine PairP.go (by kernel_rfl) ?_) | apply CallP.own0 | apply CallP.own1 | apply CallP.own2 | apply CallP.own3 | apply CallP.nb | apply CutE.go0 | apply CutE.go7 | apply CutE.go6 | apply CutE.go5 | apply CutE.go4 | apply CutE.go3 | apply CutE.go2 | apply CutE.go1 | apply RoP.id | apply wrapS | (with_reducible exact lenNil) | apply Eq.refl)) | ((first | (with_reducible show rvEq _ _ _ _) | (with_reducible show svEq _ _ _ _) | (with_reducible show cellEq _ _ _ _) | (with_reducible show blkEq _ _ _)); conv => whnf))
          all_goals first
            | omega
            | exact hw.symm
            | (show ((i + 1 : Nat) : Int) = IntKind.i64.wrap ((i : Int) + 1); exact hw.symm)
            | (show (mkG l (i + 1) i).th = _; rw [mkG_new] <;> first | rfl | exact hc0.symm)
            | (show (mkG l (i + 1) i).n = _; rw [mkG_new] <;> first | rfl | exact hc0.symm)
            | (show (mkG l (i + 1) i).c0 = _; rw [mkG_new] <;> first | rfl | exact hc0.symm)
            | (show (mkG l (i + 1) i).c1 = _; rw [mkG_new] <;> first | rfl | exact hc0.symm)
            | (show (mkG l (i + 1) i).c2 = _; rw [mkG_new] <;> first | rfl | exact hc0.symm)
            | (show (mkG l (i + 1) i).c3 = _; rw [mkG_new] <;> first | rfl | exact hc0.symm)
            | (show (mkG l (i + 1) i).why = _; rw [mkG_new] <;> first | rfl | exact hc0.symm)
            | (show (mkG l (i + 1) i).rv = _; rw [mkG_new] <;> first | rfl | exact hc0.symm)
            | (show (mkG l (i + 1) i).fr = _; rw [mkG_new] <;> first | rfl | exact hc0.symm)
            | (show (mkG l (i + 1) i).to = _; rw [mkG_new] <;> first | rfl | exact hc0.symm)
            | (show _ = (mkG l (i + 1) i).th; rw [mkG_new] <;> first | rfl | exact hc0)
            | (show _ = (mkG l (i + 1) i).n; rw [mkG_new] <;> first | rfl | exact hc0)
            | (show _ = (mkG l (i + 1) i).c0; rw [mkG_new] <;> first | rfl | exact hc0)
            | (show _ = (mkG l (i + 1) i).c1; rw [mkG_new] <;> first | rfl | exact hc0)
            | (show _ = (mkG l (i + 1) i).c2; rw [mkG_new] <;> first | rfl | exact hc0)
            | (show _ = (mkG l (i + 1) i).c3; rw [mkG_new] <;> first | rfl | exact hc0)
            | (show _ = (mkG l (i + 1) i).why; rw [mkG_new] <;> first | rfl | exact hc0)
            | (show _ = (mkG l (i + 1) i).rv; rw [mkG_new] <;> first | rfl | exact hc0)
            | (show _ = (mkG l (i + 1) i).fr; rw [mkG_new] <;> first | rfl | exact hc0)
            | (show _ = (mkG l (i + 1) i).to; rw [mkG_new] <;> first | rfl | exact hc0)
            | (show i + 1 ≤ i + 1; omega)
            | (show i + 1 ≤ l.length; omega)
            | trace_state
        rintro ⟨k, _⟩ ⟨hk1, hk2⟩
        have hk1 : i + 1 ≤ k := hk1
        have hk2 : k ≤ l.length := hk2
        have hE := fun h1 h2 h3 => mkG_end (l := l) (k := k) (i := i) h1 (by omega) h2 h3
        have hN := fun h => mkG_same (l := l) (k := k) (i := i) h
        have hst := fun h => mkG_stay (l := l) (i := i) (k := k) h hk2
        repeat' (first | (intro h; first | exact Bool.noConfusion h | (guard_hyp h : true = true; clear h) | (guard_hyp h : false = false; clear h) | (simp only [decide_eq_true_eq, decide_eq_false_iff_not, beq_iff_eq, beq_eq_false_iff_ne, bne_iff_ne, bne_eq_false_iff_eq, Bool.not_eq_true', Bool.not_eq_false', ne_eq, Classical.not_not, Bool.not_true, Bool.not_false, beqL_iff, beqL_ff, List.cons.injEq, and_true] at h) | skip) | ((conv => whnf) <;> (first | exact True.intro | apply br_rec | apply And.intro | refine CutE.at (A := Nat × Unit) (k + 1, ()) ?_ | refine CutE.at (A := Unit) () ?_ | apply EntP.id 3 | apply EntP.k0 | apply EntP.k1 | apply EntP.k2 | apply EntP.k3 | apply EntP.k4 | apply EntP.k5 | apply EntP.k6 | apply DrawP.go | (apply AnyP.mk; kernel_rfl) | (refine AggP.go 2 rfl (by kernel_rfl) ?_) | (refine AggP.go 1 rfl (by kernel_rfl) ?_) | (refine AggP.go 3 rfl (by kernel_rfl) ?_) | (refine AggP.go 4 rfl (by kernel_rfl) ?_) | (refine AggP.go 5 rfl (by kernel_rfl) ?_) | (refine AggP.go 8 rfl (by kernel_rfl) ?_) | (refine AggP.go 11 rfl (by kernel_rfl) ?_) | (refine AggP.go 10 rfl (by kernel_rfl) ?_) | (refine PairP.go (by kernel_rfl) ?_) | apply CallP.own0 | apply CallP.own1 | apply CallP.own2 | apply CallP.own3 | apply CallP.nb | apply CutE.go0 | apply CutE.go7 | apply CutE.go6 | apply CutE.go5 | apply CutE.go4 | apply CutE.go3 | apply CutE.go2 | apply CutE.go1 | apply RoP.id | apply wrapS | (with_reducible exact lenNil) | apply Eq.refl)) | ((first | (with_reducible show rvEq _ _ _ _) | (with_reducible show svEq _ _ _ _) | (with_reducible show cellEq _ _ _ _) | (with_reducible show blkEq _ _ _)); conv => whnf))
        all_goals try simp only [Int.toNat_natCast] at *
        all_goals first
          | omega
          | (rw [hE (by assumption) (by assumption) (by assumption)] <;> rfl)
          | (rw [hN (fun q => absurd q.2.2.1 (by assumption))])
          | (rw [hN (fun q => absurd q.2.2.2 (by assumption))])
          | (rw [show k = l.length by omega])
          | (rw [hst (by omega)])
          | (show l.length - (k + 1) < l.length - k; omega)
          | (show i + 1 ≤ k + 1; omega)
          | (show k + 1 ≤ l.length; omega)
          | trace_state
      rintro ⟨⟩ _
      repeat' (first | (intro h; first | exact Bool.noConfusion h | (guard_hyp h : true = true; clear h) | (guard_hyp h : false = false; clear h) | (simp only [decide_eq_true_eq, decide_eq_false_iff_not, beq_iff_eq, beq_eq_false_iff_ne, bne_iff_ne, bne_eq_false_iff_eq, Bool.not_eq_true', Bool.not_eq_false', ne_eq, Classical.not_not, Bool.not_true, Bool.not_false, beqL_iff, beqL_ff, List.cons.injEq, and_true] at h) | skip) | ((conv => whnf) <;> (first | exact True.intro | apply br_rec | apply And.intro | refine CutE.at (A := Nat) (i + 1) ?_ | apply EntP.k0 | apply EntP.k1 | apply EntP.k2 | apply EntP.k3 | apply EntP.k4 | apply EntP.k5 | apply EntP.k6 | apply DrawP.go | (apply AnyP.mk; kernel_rfl) | (refine AggP.go 2 rfl (by kernel_rfl) ?_) | (refine AggP.go 1 rfl (by kernel_rfl) ?_) | (refine AggP.go 3 rfl (by kernel_rfl) ?_) | (refine AggP.go 4 rfl (by kernel_rfl) ?_) | (refine AggP.go 5 rfl (by kernel_rfl) ?_) | (refine AggP.go 8 rfl (by kernel_rfl) ?_) | (refine AggP.go 11 rfl (by kernel_rfl) ?_) | (refine AggP.go 10 rfl (by kernel_rfl) ?_) | (refine PairP.go (by kernel_rfl) ?_) | apply CallP.own0 | apply CallP.own1 | apply CallP.own2 | apply CallP.own3 | apply CallP.nb | apply CutE.go0 | apply CutE.go7 | apply CutE.go6 | apply CutE.go5 | apply CutE.go4 | apply CutE.go3 | apply CutE.go2 | apply CutE.go1 | apply RoP.id | apply wrapS | (with_reducible exact lenNil) | apply Eq.refl)) | ((first | (with_reducible show rvEq _ _ _ _) | (with_reducible show svEq _ _ _ _) | (with_reducible show cellEq _ _ _ _) | (with_reducible show blkEq _ _ _)); conv => whnf))
      all_goals first
        | omega
        | (rw [hoy, List.length_append]; rfl)
        | (show ((outR l i).length + 1) * 80 ≤ _; omega)
        | (show l.length - (i + 1) < l.length - i; omega)
        | (show i + 1 ≤ l.length; omega)
        | (rename_i a ha c; rw [hoy] at ha ⊢; exact slG_snocG rfl ha h rfl)
        | trace_state
    · have hon := outR_no h0
      repeat' (first | (intro h; first | exact Bool.noConfusion h | (guard_hyp h : true = true; clear h) | (guard_hyp h : false = false; clear h) | (simp only [decide_eq_true_eq, decide_eq_false_iff_not, beq_iff_eq, beq_eq_false_iff_ne, bne_iff_ne, bne_eq_false_iff_eq, Bool.not_eq_true', Bool.not_eq_false', ne_eq, Classical.not_not, Bool.not_true, Bool.not_false, beqL_iff, beqL_ff, List.cons.injEq, and_true] at h) | skip) | ((conv => whnf) <;> (first | exact True.intro | apply br_rec | apply And.intro | refine CutE.goL (l.take i) ?_ | refine CutE.at (A := Nat) (i + 1) ?_ | apply EntP.k0 | apply EntP.k1 | apply EntP.k2 | apply EntP.k3 | apply EntP.k4 | apply EntP.k5 | apply EntP.k6 | apply DrawP.go | (apply AnyP.mk; kernel_rfl) | (refine AggP.go 2 rfl (by kernel_rfl) ?_) | (refine AggP.go 1 rfl (by kernel_rfl) ?_) | (refine AggP.go 3 rfl (by kernel_rfl) ?_) | (refine AggP.go 4 rfl (by kernel_rfl) ?_) | (refine AggP.go 5 rfl (by kernel_rfl) ?_) | (refine AggP.go 8 rfl (by kernel_rfl) ?_) | (refine AggP.go 11 rfl (by kernel_rfl) ?_) | (refine AggP.go 10 rfl (by kernel_rfl) ?_) | (refine PairP.go (by kernel_rfl) ?_) | apply CallP.own0 | apply CallP.own1 | apply CallP.own2 | apply CallP.own3 | apply CallP.nb | apply CutE.go0 | apply CutE.go7 | apply CutE.go6 | apply CutE.go5 | apply CutE.go4 | apply CutE.go3 | apply CutE.go2 | apply CutE.go1 | apply RoP.id | apply wrapS | (with_reducible exact lenNil) | apply Eq.refl)) | ((first | (with_reducible show rvEq _ _ _ _) | (with_reducible show svEq _ _ _ _) | (with_reducible show cellEq _ _ _ _) | (with_reducible show blkEq _ _ _)); conv => whnf))
      all_goals first
        | (exfalso; omega)
        | (exfalso; exact h0 (by assumption))
        | omega
        | (rw [hon]; done)
        | (show l.length - (i + 1) < l.length - i; omega)
        | (show i + 1 ≤ l.length; omega)
        | trace_state
  · have e : i = l.length := by omega
    subst e
    repeat' (first | (intro h; first | exact Bool.noConfusion h | (guard_hyp h : true = true; clear h) | (guard_hyp h : false = false; clear h) | (simp only [decide_eq_true_eq, decide_eq_false_iff_not, beq_iff_eq, beq_eq_false_iff_ne, bne_iff_ne, bne_eq_false_iff_eq, Bool.not_eq_true', Bool.not_eq_false', ne_eq, Classical.not_not, Bool.not_true, Bool.not_false, beqL_iff, beqL_ff, List.cons.injEq, and_true] at h) | skip) | ((conv => whnf) <;> (first | exact True.intro | apply br_rec | apply And.intro | apply EntP.k0 | apply EntP.k1 | apply EntP.k2 | apply EntP.k3 | apply EntP.k4 | apply EntP.k5 | apply EntP.k6 | apply DrawP.go | (apply AnyP.mk; kernel_rfl) | (refine AggP.go 2 rfl (by kernel_rfl) ?_) | (refine AggP.go 1 rfl (by kernel_rfl) ?_) | (refine AggP.go 3 rfl (by kernel_rfl) ?_) | (refine AggP.go 4 rfl (by kernel_rfl) ?_) | (refine AggP.go 5 rfl (by kernel_rfl) ?_) | (refine AggP.go 8 rfl (by kernel_rfl) ?_) | (refine AggP.go 11 rfl (by kernel_rfl) ?_) | (refine AggP.go 10 rfl (by kernel_rfl) ?_) | (refine PairP.go (by kernel_rfl) ?_) | apply CallP.own0 | apply CallP.own1 | apply CallP.own2 | apply CallP.own3 | apply CallP.nb | apply CutE.go0 | apply CutE.go7 | apply CutE.go6 | apply CutE.go5 | apply CutE.go4 | apply CutE.go3 | apply CutE.go2 | apply CutE.go1 | apply RoP.id | apply wrapS | (with_reducible exact lenNil) | apply Eq.refl)) | ((first | (with_reducible show rvEq _ _ _ _) | (with_reducible show svEq _ _ _ _) | (with_reducible show cellEq _ _ _ _) | (with_reducible show blkEq _ _ _)); conv => whnf))
    all_goals first
      | (exfalso; omega)
      | rfl
      | trace_state
end Go.Eng
