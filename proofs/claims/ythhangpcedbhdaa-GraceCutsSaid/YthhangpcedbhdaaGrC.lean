/- Grace: stretches, walked. -/
import Derived.Test.YthhangpcedbhdaaGrB
set_option linter.unusedVariables false
set_option linter.unusedSimpArgs false
namespace Go.Eng
open Go Go.Proofs

def G1 : List (Nat × FSpec) := [(53, sNewO), (54, sInA.or sInB), (55, sOut)]
theorem G1_ok : GOK Try.prog (tab G1) := gok_cons newO_ok (gok_cons (meets_or inA_ok inB_ok) (gok_cons out_ok (gok_nil _)))
def sStr : FSpec := spec (List Ev × Int × Int × Int) (fun (l, i, o, most) => [.c (evsS l), .i i, .i o, .i most]) (fun (l, _, _, most) => l.length ≤ 200 ∧ 0 ≤ most) fun (l, i, o, most) => .c (scsS (strF l i o most))
abbrev StG := Nat × List Sc × (Int → Option Int) × (Int → Option Int)
set_option maxHeartbeats 8000000 in
set_option maxRecDepth 100000 in
theorem str_ok : Meets Try.prog 42 sStr := by
  refine meets_plain G1_ok rfl [] (fn := Try.f42) rfl rfl rfl (by decide) fun ⟨l, i, o, most⟩ hh => ?_
  have hl : l.length ≤ 200 := hh.1
  have hm : 0 ≤ most := hh.2
  clear hh
  repeat' (first | (intro h; first | exact Bool.noConfusion h | (guard_hyp h : true = true; clear h) | (guard_hyp h : false = false; clear h) | (simp only [decide_eq_true_eq, decide_eq_false_iff_not, beq_iff_eq, beq_eq_false_iff_ne, bne_iff_ne, bne_eq_false_iff_eq, Bool.not_eq_true', Bool.not_eq_false', ne_eq, Classical.not_not, Bool.not_true, Bool.not_false, beqL_iff, beqL_ff, List.cons.injEq, and_true] at h) | skip) | ((conv => whnf) <;> (first | exact True.intro | apply br_rec | apply And.intro | refine CutE.at () ?_ | apply EntP.k0 | apply EntP.k1 | apply EntP.k2 | apply EntP.k3 | apply EntP.k4 | apply EntP.k5 | apply EntP.k6 | apply DrawP.go | (apply AnyP.mk; kernel_rfl) | (refine AggP.go 2 rfl (by kernel_rfl) ?_) | (refine AggP.go 1 rfl (by kernel_rfl) ?_) | (refine AggP.go 3 rfl (by kernel_rfl) ?_) | (refine AggP.go 4 rfl (by kernel_rfl) ?_) | (refine AggP.go 5 rfl (by kernel_rfl) ?_) | (refine AggP.go 8 rfl (by kernel_rfl) ?_) | (refine AggP.go 11 rfl (by kernel_rfl) ?_) | apply CallP.own0 | apply CallP.own1 | apply CallP.own2 | apply CallP.own3 | apply CallP.nb | apply CutE.go0 | apply CutE.go7 | apply CutE.go6 | apply CutE.go5 | apply CutE.go4 | apply CutE.go3 | apply CutE.go2 | apply CutE.go1 | apply RoP.id | apply wrapS | (with_reducible exact lenNil) | apply Eq.refl)) | ((first | (with_reducible show rvEq _ _ _ _) | (with_reducible show svEq _ _ _ _) | (with_reducible show cellEq _ _ _ _) | (with_reducible show blkEq _ _ _)); conv => whnf))
  apply LoopP.up (G := StG) (fun g => StI l i o most g.1 g.2) [1, 2, 3, 9, 13, 14, 15] (fun g => [(15, .i g.1)]) (fun g => [(0, .row 87 [.osl 3, .mp 1, .mp 2]), (1, .imap g.2.2.1), (2, .imap g.2.2.2), (3, .slc 50 3 g.2.1.length (slG encSc g.2.1))]) 4 (fun g => l.length - g.1)
  apply And.intro
  · refine CutE.at (0, op0) ⟨EntP.at (n := 4) [⟨true, 0, 0, 50, 3⟩] [0, 1, 2, 3] ?_, StI.start l i o most⟩
    repeat' (first | (intro h; first | exact Bool.noConfusion h | (guard_hyp h : true = true; clear h) | (guard_hyp h : false = false; clear h) | (simp only [decide_eq_true_eq, decide_eq_false_iff_not, beq_iff_eq, beq_eq_false_iff_ne, bne_iff_ne, bne_eq_false_iff_eq, Bool.not_eq_true', Bool.not_eq_false', ne_eq, Classical.not_not, Bool.not_true, Bool.not_false, beqL_iff, beqL_ff, List.cons.injEq, and_true] at h) | skip) | ((conv => whnf) <;> (first | exact True.intro | apply br_rec | apply And.intro | apply EntP.k0 | apply EntP.k1 | apply EntP.k2 | apply EntP.k3 | apply EntP.k4 | apply EntP.k5 | apply EntP.k6 | apply DrawP.go | (apply AnyP.mk; kernel_rfl) | (refine AggP.go 2 rfl (by kernel_rfl) ?_) | (refine AggP.go 1 rfl (by kernel_rfl) ?_) | (refine AggP.go 3 rfl (by kernel_rfl) ?_) | (refine AggP.go 4 rfl (by kernel_rfl) ?_) | (refine AggP.go 5 rfl (by kernel_rfl) ?_) | (refine AggP.go 8 rfl (by kernel_rfl) ?_) | (refine AggP.go 11 rfl (by kernel_rfl) ?_) | apply CallP.own0 | apply CallP.own1 | apply CallP.own2 | apply CallP.own3 | apply CallP.nb | apply CutE.go0 | apply CutE.go7 | apply CutE.go6 | apply CutE.go5 | apply CutE.go4 | apply CutE.go3 | apply CutE.go2 | apply CutE.go1 | apply RoP.id | apply wrapS | (with_reducible exact lenNil) | apply Eq.refl)) | ((first | (with_reducible show rvEq _ _ _ _) | (with_reducible show svEq _ _ _ _) | (with_reducible show cellEq _ _ _ _) | (with_reducible show blkEq _ _ _)); conv => whnf))
    all_goals first
      | (rename_i i hi t; exact absurd hi (Nat.not_lt_zero _))
      | omega
      | rfl
      | trace_state
  rintro ⟨k, out, d, w⟩ hI
  have hI : StI l i o most k (out, d, w) := hI
  have hk := hI.le
  have hlen : out.length ≤ k := hI.len
  have hS : SmallO (out, d, w) := ⟨by show out.length ≤ 1000; omega, fun a => by have := hI.d a; omega⟩
  by_cases hkl : k < l.length
  · by_cases hx : (l.getD k default).1 = i
    · have hn := hI.inn hkl hm hx
      by_cases h0 : oD d (l.getD k default).2.1 = 0
      · have e : inG (out, d, w) (l.getD k default).2.1 k most = (out ++ [(⟨(l.getD k default).2.1, k, -1⟩ : Sc)], setM d (l.getD k default).2.1 (minW 0 most), setM w (l.getD k default).2.1 out.length) := by rw [inG, if_pos h0]
        rw [e] at hn
        repeat' (first | (intro h; first | exact Bool.noConfusion h | (guard_hyp h : true = true; clear h) | (guard_hyp h : false = false; clear h) | (simp only [decide_eq_true_eq, decide_eq_false_iff_not, beq_iff_eq, beq_eq_false_iff_ne, bne_iff_ne, bne_eq_false_iff_eq, Bool.not_eq_true', Bool.not_eq_false', ne_eq, Classical.not_not, Bool.not_true, Bool.not_false, beqL_iff, beqL_ff, List.cons.injEq, and_true] at h) | skip) | ((conv => whnf) <;> (first | exact True.intro | apply br_rec | apply And.intro | apply CallP.inl | apply CallP.own4 | refine CutE.at (A := StG) (k + 1, out ++ [(⟨(l.getD k default).2.1, k, -1⟩ : Sc)], setM d (l.getD k default).2.1 (minW 0 most), setM w (l.getD k default).2.1 out.length) ?_ | refine CutE.at (A := OpG × Int × Int × Int × Int) ((out, d, w), (l.getD k default).2.1, (l.getD k default).2.1, (k : Int), most) ?_ | refine CutE.at (A := OpG × Int × Int) ((out, d, w), (l.getD k default).2.1, (k : Int)) ?_ | apply EntP.k0 | apply EntP.k1 | apply EntP.k2 | apply EntP.k3 | apply EntP.k4 | apply EntP.k5 | apply EntP.k6 | apply DrawP.go | (apply AnyP.mk; kernel_rfl) | (refine AggP.go 2 rfl (by kernel_rfl) ?_) | (refine AggP.go 1 rfl (by kernel_rfl) ?_) | (refine AggP.go 3 rfl (by kernel_rfl) ?_) | (refine AggP.go 4 rfl (by kernel_rfl) ?_) | (refine AggP.go 5 rfl (by kernel_rfl) ?_) | (refine AggP.go 8 rfl (by kernel_rfl) ?_) | (refine AggP.go 11 rfl (by kernel_rfl) ?_) | apply CallP.own0 | apply CallP.own1 | apply CallP.own2 | apply CallP.own3 | apply CallP.nb | apply CutE.go0 | apply CutE.go7 | apply CutE.go6 | apply CutE.go5 | apply CutE.go4 | apply CutE.go3 | apply CutE.go2 | apply CutE.go1 | apply RoP.id | apply wrapS | (with_reducible exact lenNil) | apply Eq.refl)) | ((first | (with_reducible show rvEq _ _ _ _) | (with_reducible show svEq _ _ _ _) | (with_reducible show cellEq _ _ _ _) | (with_reducible show blkEq _ _ _)); conv => whnf))
        all_goals try simp only [Int.toNat_natCast] at *
        all_goals first
          | omega
          | exact hn
          | exact fun _ => rfl
          | exact hS.1
          | exact (hS.2 _).1
          | exact (hS.2 _).2
          | exact h0
          | (exfalso; omega)
          | (show l.length - (k + 1) < l.length - k; omega)
          | exact hI.ix _ (by assumption)
          | exact (hI.ix _ (by assumption)).1
          | exact (hI.ix _ (by assumption)).2
          | rfl
          | trace_state
      · have e : inG (out, d, w) (l.getD k default).2.1 k most = (out, setM d (l.getD k default).2.1 (minW (oD d (l.getD k default).2.1) most), w) := by rw [inG, if_neg h0]
        rw [e] at hn
        repeat' (first | (intro h; first | exact Bool.noConfusion h | (guard_hyp h : true = true; clear h) | (guard_hyp h : false = false; clear h) | (simp only [decide_eq_true_eq, decide_eq_false_iff_not, beq_iff_eq, beq_eq_false_iff_ne, bne_iff_ne, bne_eq_false_iff_eq, Bool.not_eq_true', Bool.not_eq_false', ne_eq, Classical.not_not, Bool.not_true, Bool.not_false, beqL_iff, beqL_ff, List.cons.injEq, and_true] at h) | skip) | ((conv => whnf) <;> (first | exact True.intro | apply br_rec | apply And.intro | apply CallP.inr | apply CallP.own4 | refine CutE.at (A := StG) (k + 1, out, setM d (l.getD k default).2.1 (minW (oD d (l.getD k default).2.1) most), w) ?_ | refine CutE.at (A := OpG × Int × Int × Int × Int) ((out, d, w), (l.getD k default).2.1, (l.getD k default).2.1, (k : Int), most) ?_ | refine CutE.at (A := OpG × Int × Int) ((out, d, w), (l.getD k default).2.1, (k : Int)) ?_ | apply EntP.k0 | apply EntP.k1 | apply EntP.k2 | apply EntP.k3 | apply EntP.k4 | apply EntP.k5 | apply EntP.k6 | apply DrawP.go | (apply AnyP.mk; kernel_rfl) | (refine AggP.go 2 rfl (by kernel_rfl) ?_) | (refine AggP.go 1 rfl (by kernel_rfl) ?_) | (refine AggP.go 3 rfl (by kernel_rfl) ?_) | (refine AggP.go 4 rfl (by kernel_rfl) ?_) | (refine AggP.go 5 rfl (by kernel_rfl) ?_) | (refine AggP.go 8 rfl (by kernel_rfl) ?_) | (refine AggP.go 11 rfl (by kernel_rfl) ?_) | apply CallP.own0 | apply CallP.own1 | apply CallP.own2 | apply CallP.own3 | apply CallP.nb | apply CutE.go0 | apply CutE.go7 | apply CutE.go6 | apply CutE.go5 | apply CutE.go4 | apply CutE.go3 | apply CutE.go2 | apply CutE.go1 | apply RoP.id | apply wrapS | (with_reducible exact lenNil) | apply Eq.refl)) | ((first | (with_reducible show rvEq _ _ _ _) | (with_reducible show svEq _ _ _ _) | (with_reducible show cellEq _ _ _ _) | (with_reducible show blkEq _ _ _)); conv => whnf))
        all_goals try simp only [Int.toNat_natCast] at *
        all_goals first
          | omega
          | exact hn
          | exact fun _ => rfl
          | exact hS.1
          | exact (hS.2 _).1
          | exact (hS.2 _).2
          | exact h0
          | (exfalso; omega)
          | (show l.length - (k + 1) < l.length - k; omega)
          | exact hI.ix _ (by assumption)
          | exact (hI.ix _ (by assumption)).1
          | exact (hI.ix _ (by assumption)).2
          | rfl
          | trace_state
    · by_cases hy : (l.getD k default).1 = o
      · have hn := hI.out hkl hx hy
        have h0 : True := True.intro
        repeat' (first | (intro h; first | exact Bool.noConfusion h | (guard_hyp h : true = true; clear h) | (guard_hyp h : false = false; clear h) | (simp only [decide_eq_true_eq, decide_eq_false_iff_not, beq_iff_eq, beq_eq_false_iff_ne, bne_iff_ne, bne_eq_false_iff_eq, Bool.not_eq_true', Bool.not_eq_false', ne_eq, Classical.not_not, Bool.not_true, Bool.not_false, beqL_iff, beqL_ff, List.cons.injEq, and_true] at h) | skip) | ((conv => whnf) <;> (first | exact True.intro | apply br_rec | apply And.intro | apply CallP.inl | apply CallP.own4 | refine CutE.at (A := StG) (k + 1, outG (out, d, w) (l.getD k default).2.1 k) ?_ | refine CutE.at (A := OpG × Int × Int × Int × Int) ((out, d, w), (l.getD k default).2.1, (l.getD k default).2.1, (k : Int), most) ?_ | refine CutE.at (A := OpG × Int × Int) ((out, d, w), (l.getD k default).2.1, (k : Int)) ?_ | apply EntP.k0 | apply EntP.k1 | apply EntP.k2 | apply EntP.k3 | apply EntP.k4 | apply EntP.k5 | apply EntP.k6 | apply DrawP.go | (apply AnyP.mk; kernel_rfl) | (refine AggP.go 2 rfl (by kernel_rfl) ?_) | (refine AggP.go 1 rfl (by kernel_rfl) ?_) | (refine AggP.go 3 rfl (by kernel_rfl) ?_) | (refine AggP.go 4 rfl (by kernel_rfl) ?_) | (refine AggP.go 5 rfl (by kernel_rfl) ?_) | (refine AggP.go 8 rfl (by kernel_rfl) ?_) | (refine AggP.go 11 rfl (by kernel_rfl) ?_) | apply CallP.own0 | apply CallP.own1 | apply CallP.own2 | apply CallP.own3 | apply CallP.nb | apply CutE.go0 | apply CutE.go7 | apply CutE.go6 | apply CutE.go5 | apply CutE.go4 | apply CutE.go3 | apply CutE.go2 | apply CutE.go1 | apply RoP.id | apply wrapS | (with_reducible exact lenNil) | apply Eq.refl)) | ((first | (with_reducible show rvEq _ _ _ _) | (with_reducible show svEq _ _ _ _) | (with_reducible show cellEq _ _ _ _) | (with_reducible show blkEq _ _ _)); conv => whnf))
        all_goals try simp only [Int.toNat_natCast] at *
        all_goals first
          | omega
          | exact hn
          | exact fun _ => rfl
          | exact hS.1
          | exact (hS.2 _).1
          | exact (hS.2 _).2
          | exact h0
          | (exfalso; omega)
          | (show l.length - (k + 1) < l.length - k; omega)
          | exact hI.ix _ (by assumption)
          | exact (hI.ix _ (by assumption)).1
          | exact (hI.ix _ (by assumption)).2
          | rfl
          | trace_state
      · have hn := hI.skip hkl hx hy
        have h0 : True := True.intro
        repeat' (first | (intro h; first | exact Bool.noConfusion h | (guard_hyp h : true = true; clear h) | (guard_hyp h : false = false; clear h) | (simp only [decide_eq_true_eq, decide_eq_false_iff_not, beq_iff_eq, beq_eq_false_iff_ne, bne_iff_ne, bne_eq_false_iff_eq, Bool.not_eq_true', Bool.not_eq_false', ne_eq, Classical.not_not, Bool.not_true, Bool.not_false, beqL_iff, beqL_ff, List.cons.injEq, and_true] at h) | skip) | ((conv => whnf) <;> (first | exact True.intro | apply br_rec | apply And.intro | apply CallP.inl | apply CallP.own4 | refine CutE.at (A := StG) (k + 1, out, d, w) ?_ | refine CutE.at (A := OpG × Int × Int × Int × Int) ((out, d, w), (l.getD k default).2.1, (l.getD k default).2.1, (k : Int), most) ?_ | refine CutE.at (A := OpG × Int × Int) ((out, d, w), (l.getD k default).2.1, (k : Int)) ?_ | apply EntP.k0 | apply EntP.k1 | apply EntP.k2 | apply EntP.k3 | apply EntP.k4 | apply EntP.k5 | apply EntP.k6 | apply DrawP.go | (apply AnyP.mk; kernel_rfl) | (refine AggP.go 2 rfl (by kernel_rfl) ?_) | (refine AggP.go 1 rfl (by kernel_rfl) ?_) | (refine AggP.go 3 rfl (by kernel_rfl) ?_) | (refine AggP.go 4 rfl (by kernel_rfl) ?_) | (refine AggP.go 5 rfl (by kernel_rfl) ?_) | (refine AggP.go 8 rfl (by kernel_rfl) ?_) | (refine AggP.go 11 rfl (by kernel_rfl) ?_) | apply CallP.own0 | apply CallP.own1 | apply CallP.own2 | apply CallP.own3 | apply CallP.nb | apply CutE.go0 | apply CutE.go7 | apply CutE.go6 | apply CutE.go5 | apply CutE.go4 | apply CutE.go3 | apply CutE.go2 | apply CutE.go1 | apply RoP.id | apply wrapS | (with_reducible exact lenNil) | apply Eq.refl)) | ((first | (with_reducible show rvEq _ _ _ _) | (with_reducible show svEq _ _ _ _) | (with_reducible show cellEq _ _ _ _) | (with_reducible show blkEq _ _ _)); conv => whnf))
        all_goals try simp only [Int.toNat_natCast] at *
        all_goals first
          | omega
          | exact hn
          | exact fun _ => rfl
          | exact hS.1
          | exact (hS.2 _).1
          | exact (hS.2 _).2
          | exact h0
          | (exfalso; omega)
          | (show l.length - (k + 1) < l.length - k; omega)
          | exact hI.ix _ (by assumption)
          | exact (hI.ix _ (by assumption)).1
          | exact (hI.ix _ (by assumption)).2
          | rfl
          | trace_state
  · have hd := hI.done hkl
    have hd : strF l i o most = out := hd
    repeat' (first | (intro h; first | exact Bool.noConfusion h | (guard_hyp h : true = true; clear h) | (guard_hyp h : false = false; clear h) | (simp only [decide_eq_true_eq, decide_eq_false_iff_not, beq_iff_eq, beq_eq_false_iff_ne, bne_iff_ne, bne_eq_false_iff_eq, Bool.not_eq_true', Bool.not_eq_false', ne_eq, Classical.not_not, Bool.not_true, Bool.not_false, beqL_iff, beqL_ff, List.cons.injEq, and_true] at h) | skip) | ((conv => whnf) <;> (first | exact True.intro | apply br_rec | apply And.intro | apply CallP.inl | apply CallP.own4 | refine CutE.at (A := StG) (k + 1, out, d, w) ?_ | refine CutE.at (A := OpG × Int × Int × Int × Int) ((out, d, w), (l.getD k default).2.1, (l.getD k default).2.1, (k : Int), most) ?_ | refine CutE.at (A := OpG × Int × Int) ((out, d, w), (l.getD k default).2.1, (k : Int)) ?_ | apply EntP.k0 | apply EntP.k1 | apply EntP.k2 | apply EntP.k3 | apply EntP.k4 | apply EntP.k5 | apply EntP.k6 | apply DrawP.go | (apply AnyP.mk; kernel_rfl) | (refine AggP.go 2 rfl (by kernel_rfl) ?_) | (refine AggP.go 1 rfl (by kernel_rfl) ?_) | (refine AggP.go 3 rfl (by kernel_rfl) ?_) | (refine AggP.go 4 rfl (by kernel_rfl) ?_) | (refine AggP.go 5 rfl (by kernel_rfl) ?_) | (refine AggP.go 8 rfl (by kernel_rfl) ?_) | (refine AggP.go 11 rfl (by kernel_rfl) ?_) | apply CallP.own0 | apply CallP.own1 | apply CallP.own2 | apply CallP.own3 | apply CallP.nb | apply CutE.go0 | apply CutE.go7 | apply CutE.go6 | apply CutE.go5 | apply CutE.go4 | apply CutE.go3 | apply CutE.go2 | apply CutE.go1 | apply RoP.id | apply wrapS | (with_reducible exact lenNil) | apply Eq.refl)) | ((first | (with_reducible show rvEq _ _ _ _) | (with_reducible show svEq _ _ _ _) | (with_reducible show cellEq _ _ _ _) | (with_reducible show blkEq _ _ _)); conv => whnf))
    all_goals first
      | (exfalso; omega)
      | (show (strF l i o most).length = out.length; rw [hd])
      | (show slG encSc (strF l i o most) _ _ = slG encSc out _ _; rw [hd])
      | trace_state
end Go.Eng
