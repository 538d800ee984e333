/- GraceCuts, walked. -/
import Derived.Test.YthhangpcedbhdaaGrJ
set_option linter.unusedVariables false
set_option linter.unusedSimpArgs false
namespace Go.Eng
open Go Go.Proofs

def cutV (n m : Int) : Int := (IntKind.i64.wrap (IntKind.i64.wrap (n.tmod (IntKind.i64.wrap (m + 1)) + m) + 1)).tmod (IntKind.i64.wrap (m + 1))
theorem cutV_is {n m : Int} (hm : 0 ≤ m) (hm2 : m ≤ 100) : 0 ≤ cutV n m ∧ cutV n m ≤ m := by
  unfold cutV
  rw [wrap_i64 (x := m + 1) (by omega)]
  have h1 := Int.tmod_lt_of_pos n (b := m + 1) (by omega)
  have h2 := Int.lt_tmod_of_pos n (b := m + 1) (by omega)
  rw [wrap_i64 (x := n.tmod (m + 1) + m) (by omega), wrap_i64 (by omega)]
  have h3 := Int.tmod_lt_of_pos (n.tmod (m + 1) + m + 1) (b := m + 1) (by omega)
  have h4 := Int.tmod_nonneg (a := n.tmod (m + 1) + m + 1) (m + 1) (by omega)
  omega
def skpV (k n : Int) : Int := (IntKind.i64.wrap (k.tmod n + n)).tmod n
theorem skpV_is {k n : Int} (hn : 1 ≤ n) (hb : n ≤ 100) : 0 ≤ skpV k n ∧ skpV k n < n := by
  unfold skpV
  have h1 : -n < k.tmod n ∧ k.tmod n < n := by
    have := Int.tmod_lt_of_pos k (show (0 : Int) < n by omega)
    have h2 := Int.lt_tmod_of_pos k (show (0 : Int) < n by omega)
    omega
  rw [wrap_i64 (x := k.tmod n + n) ⟨by omega, by omega⟩]
  have h3 : 0 ≤ (k.tmod n + n).tmod n := Int.tmod_nonneg _ (by omega)
  have h4 := Int.tmod_lt_of_pos (k.tmod n + n) (show (0 : Int) < n by omega)
  omega
theorem slG_takeE {L : List Ev} {c i : Nat} (hi : i < (L.take c).length) (t : Nat) : slG encEv (L.take c) i t = slG encEv L i t := by
  rw [List.length_take] at hi
  unfold slG
  rw [getD_take' (by omega)]
def sGCuts : FSpec := spec (List Ev × Int × Int) (fun (l, c, k) => [.c (evsS l), .i c, .i k]) (fun _ => True) fun _ => .b true
set_option maxHeartbeats 8000000 in
set_option maxRecDepth 100000 in
theorem gcuts_ok : Meets Try.prog 8 sGCuts := by
  refine meets_plain G5_ok rfl [6, 9, 13] (fn := Try.f8) rfl rfl rfl (by decide) fun ⟨l, c, k⟩ _ => ?_
  have h60 : (l.take 60).length ≤ 60 := List.length_take_le _ _
  have hy : (synF (l.take 60)).length ≤ 60 := Nat.le_trans (strF_len (l.take 60) 4 5 1) h60
  by_cases hr : (chkF (l.take 60)).2 = true
  · repeat' (first | (intro h; first | exact Bool.noConfusion h | (guard_hyp h : true = true; clear h) | (guard_hyp h : false = false; clear h) | (simp only [decide_eq_true_eq, decide_eq_false_iff_not, beq_iff_eq, beq_eq_false_iff_ne, bne_iff_ne, bne_eq_false_iff_eq, Bool.not_eq_true', Bool.not_eq_false', ne_eq, Classical.not_not, Bool.not_true, Bool.not_false, beqL_iff, beqL_ff, List.cons.injEq, and_true] at h) | skip) | ((conv => whnf) <;> (first | exact True.intro | apply br_rec | apply And.intro | apply EntP.k0 | apply EntP.k1 | apply EntP.k2 | apply EntP.k3 | apply EntP.k4 | apply EntP.k5 | apply EntP.k6 | apply DrawP.go | (apply AnyP.mk; kernel_rfl) | (refine AggP.go 2 rfl (by kernel_rfl) ?_) | (refine AggP.go 1 rfl (by kernel_rfl) ?_) | (refine AggP.go 3 rfl (by kernel_rfl) ?_) | (refine AggP.go 4 rfl (by kernel_rfl) ?_) | (refine AggP.go 5 rfl (by kernel_rfl) ?_) | (refine AggP.go 8 rfl (by kernel_rfl) ?_) | (refine AggP.go 11 rfl (by kernel_rfl) ?_) | apply CallP.own0 | apply CallP.own1 | apply CallP.own2 | apply CallP.own3 | apply CallP.nb | apply CutE.go0 | apply CutE.go7 | apply CutE.go6 | apply CutE.go5 | apply CutE.go4 | apply CutE.go3 | apply CutE.go2 | apply CutE.go1 | apply RoP.id | apply wrapS | (with_reducible exact lenNil) | apply Eq.refl)) | ((first | (with_reducible show rvEq _ _ _ _) | (with_reducible show svEq _ _ _ _) | (with_reducible show cellEq _ _ _ _) | (with_reducible show blkEq _ _ _)); conv => whnf))
    all_goals try first | (show (l.take 60).length ≤ 200; omega) | (exfalso; exact absurd hr (by assumption)) | (exfalso; simp_all; done)
    generalize l.take 60 = L at *
    have hz0 := chk_zero hr
    have hcut := fun c (hc : c ≤ L.length) => chk_cut h60 hr hc
    apply CutP.up (G := Int) (fun z => 0 ≤ z ∧ z ≤ L.length) [0, 1, 2] (fun z => [(1, .i z)]) (fun _ => []) 0
    apply And.intro
    · repeat' (first | (intro h; first | exact Bool.noConfusion h | (guard_hyp h : true = true; clear h) | (guard_hyp h : false = false; clear h) | (simp only [decide_eq_true_eq, decide_eq_false_iff_not, beq_iff_eq, beq_eq_false_iff_ne, bne_iff_ne, bne_eq_false_iff_eq, Bool.not_eq_true', Bool.not_eq_false', ne_eq, Classical.not_not, Bool.not_true, Bool.not_false, beqL_iff, beqL_ff, List.cons.injEq, and_true] at h) | skip) | ((conv => whnf) <;> (first | exact True.intro | apply br_rec | apply And.intro | refine CutE.at (A := Int) (cutV c L.length) ?_ | apply EntP.k0 | apply EntP.k1 | apply EntP.k2 | apply EntP.k3 | apply EntP.k4 | apply EntP.k5 | apply EntP.k6 | apply DrawP.go | (apply AnyP.mk; kernel_rfl) | (refine AggP.go 2 rfl (by kernel_rfl) ?_) | (refine AggP.go 1 rfl (by kernel_rfl) ?_) | (refine AggP.go 3 rfl (by kernel_rfl) ?_) | (refine AggP.go 4 rfl (by kernel_rfl) ?_) | (refine AggP.go 5 rfl (by kernel_rfl) ?_) | (refine AggP.go 8 rfl (by kernel_rfl) ?_) | (refine AggP.go 11 rfl (by kernel_rfl) ?_) | apply CallP.own0 | apply CallP.own1 | apply CallP.own2 | apply CallP.own3 | apply CallP.nb | apply CutE.go0 | apply CutE.go7 | apply CutE.go6 | apply CutE.go5 | apply CutE.go4 | apply CutE.go3 | apply CutE.go2 | apply CutE.go1 | apply RoP.id | apply wrapS | (with_reducible exact lenNil) | apply Eq.refl)) | ((first | (with_reducible show rvEq _ _ _ _) | (with_reducible show svEq _ _ _ _) | (with_reducible show cellEq _ _ _ _) | (with_reducible show blkEq _ _ _)); conv => whnf))
      all_goals first | omega | exact (cutV_is (by omega) (by omega)).1 | exact (cutV_is (by omega) (by omega)).2 | (rename_i h; rw [wrap_i64 (by omega)] at h; omega) | trace_state
    intro z hz
    have hz : 0 ≤ z ∧ z ≤ L.length := hz
    have hk1 := hcut z.toNat (by omega)
    have hk2 := chk_zero hk1
    have hlz : (L.take z.toNat).length = z.toNat := by rw [List.length_take]; omega
    have hsk := fun {s} (hs : s ∈ synF L) => chk_skip h60 hr hs
    apply CutP.up (G := Unit) (fun _ => True) [0, 2] (fun _ => []) (fun _ => []) 0
    apply And.intro
    · repeat' (first | (intro h; first | exact Bool.noConfusion h | (guard_hyp h : true = true; clear h) | (guard_hyp h : false = false; clear h) | (simp only [decide_eq_true_eq, decide_eq_false_iff_not, beq_iff_eq, beq_eq_false_iff_ne, bne_iff_ne, bne_eq_false_iff_eq, Bool.not_eq_true', Bool.not_eq_false', ne_eq, Classical.not_not, Bool.not_true, Bool.not_false, beqL_iff, beqL_ff, List.cons.injEq, and_true] at h) | skip) | ((conv => whnf) <;> (first | exact True.intro | apply br_rec | apply And.intro | refine CutE.at (A := List Ev) (L.take z.toNat) ?_ | refine CutE.at (A := Unit) () ?_ | apply EntP.k0 | apply EntP.k1 | apply EntP.k2 | apply EntP.k3 | apply EntP.k4 | apply EntP.k5 | apply EntP.k6 | apply DrawP.go | (apply AnyP.mk; kernel_rfl) | (refine AggP.go 2 rfl (by kernel_rfl) ?_) | (refine AggP.go 1 rfl (by kernel_rfl) ?_) | (refine AggP.go 3 rfl (by kernel_rfl) ?_) | (refine AggP.go 4 rfl (by kernel_rfl) ?_) | (refine AggP.go 5 rfl (by kernel_rfl) ?_) | (refine AggP.go 8 rfl (by kernel_rfl) ?_) | (refine AggP.go 11 rfl (by kernel_rfl) ?_) | apply CallP.own0 | apply CallP.own1 | apply CallP.own2 | apply CallP.own3 | apply CallP.nb | apply CutE.go0 | apply CutE.go7 | apply CutE.go6 | apply CutE.go5 | apply CutE.go4 | apply CutE.go3 | apply CutE.go2 | apply CutE.go1 | apply RoP.id | apply wrapS | (with_reducible exact lenNil) | apply Eq.refl)) | ((first | (with_reducible show rvEq _ _ _ _) | (with_reducible show svEq _ _ _ _) | (with_reducible show cellEq _ _ _ _) | (with_reducible show blkEq _ _ _)); conv => whnf))
      all_goals first
        | omega
        | (show (L.take z.toNat).length = (z - 0).toNat; omega)
        | (rw [slG_takeE (by assumption)]; simp; done)
        | (show (L.take z.toNat).length ≤ 200; omega)
        | (exfalso; exact absurd hk1 (by simp_all; done))
        | (exfalso; exact absurd hk2 (by assumption))
        | trace_state
    rintro ⟨⟩ _
    repeat' (first | (intro h; first | exact Bool.noConfusion h | (guard_hyp h : true = true; clear h) | (guard_hyp h : false = false; clear h) | (simp only [decide_eq_true_eq, decide_eq_false_iff_not, beq_iff_eq, beq_eq_false_iff_ne, bne_iff_ne, bne_eq_false_iff_eq, Bool.not_eq_true', Bool.not_eq_false', ne_eq, Classical.not_not, Bool.not_true, Bool.not_false, beqL_iff, beqL_ff, List.cons.injEq, and_true] at h) | skip) | ((conv => whnf) <;> (first | exact True.intro | apply br_rec | apply And.intro | apply EntP.k0 | apply EntP.k1 | apply EntP.k2 | apply EntP.k3 | apply EntP.k4 | apply EntP.k5 | apply EntP.k6 | apply DrawP.go | (apply AnyP.mk; kernel_rfl) | (refine AggP.go 2 rfl (by kernel_rfl) ?_) | (refine AggP.go 1 rfl (by kernel_rfl) ?_) | (refine AggP.go 3 rfl (by kernel_rfl) ?_) | (refine AggP.go 4 rfl (by kernel_rfl) ?_) | (refine AggP.go 5 rfl (by kernel_rfl) ?_) | (refine AggP.go 8 rfl (by kernel_rfl) ?_) | (refine AggP.go 11 rfl (by kernel_rfl) ?_) | apply CallP.own0 | apply CallP.own1 | apply CallP.own2 | apply CallP.own3 | apply CallP.nb | apply CutE.go0 | apply CutE.go7 | apply CutE.go6 | apply CutE.go5 | apply CutE.go4 | apply CutE.go3 | apply CutE.go2 | apply CutE.go1 | apply RoP.id | apply wrapS | (with_reducible exact lenNil) | apply Eq.refl)) | ((first | (with_reducible show rvEq _ _ _ _) | (with_reducible show svEq _ _ _ _) | (with_reducible show cellEq _ _ _ _) | (with_reducible show blkEq _ _ _)); conv => whnf))
    all_goals try first | omega | (show L.length ≤ 200; omega) | exact ()
    rename_i hne
    have hsv := skpV_is (k := k) (n := (synF L).length) (by omega) (by omega)
    apply CutP.up (G := Nat) (fun m => m < (synF L).length) [0, 12] (fun _ => [(12, .c (.ptr 0 0))]) (fun m => [(0, .row 50 (encSc ((synF L).getD m default)))]) 1
    apply And.intro
    · repeat' (first | (intro h; first | exact Bool.noConfusion h | (guard_hyp h : true = true; clear h) | (guard_hyp h : false = false; clear h) | (simp only [decide_eq_true_eq, decide_eq_false_iff_not, beq_iff_eq, beq_eq_false_iff_ne, bne_iff_ne, bne_eq_false_iff_eq, Bool.not_eq_true', Bool.not_eq_false', ne_eq, Classical.not_not, Bool.not_true, Bool.not_false, beqL_iff, beqL_ff, List.cons.injEq, and_true] at h) | skip) | ((conv => whnf) <;> (first | exact True.intro | apply br_rec | apply And.intro | refine CutE.at (A := Nat) (skpV k (synF L).length).toNat ?_ | apply EntP.k0 | apply EntP.k1 | apply EntP.k2 | apply EntP.k3 | apply EntP.k4 | apply EntP.k5 | apply EntP.k6 | apply DrawP.go | (apply AnyP.mk; kernel_rfl) | (refine AggP.go 2 rfl (by kernel_rfl) ?_) | (refine AggP.go 1 rfl (by kernel_rfl) ?_) | (refine AggP.go 3 rfl (by kernel_rfl) ?_) | (refine AggP.go 4 rfl (by kernel_rfl) ?_) | (refine AggP.go 5 rfl (by kernel_rfl) ?_) | (refine AggP.go 8 rfl (by kernel_rfl) ?_) | (refine AggP.go 11 rfl (by kernel_rfl) ?_) | apply CallP.own0 | apply CallP.own1 | apply CallP.own2 | apply CallP.own3 | apply CallP.nb | apply CutE.go0 | apply CutE.go7 | apply CutE.go6 | apply CutE.go5 | apply CutE.go4 | apply CutE.go3 | apply CutE.go2 | apply CutE.go1 | apply RoP.id | apply wrapS | (with_reducible exact lenNil) | apply Eq.refl)) | ((first | (with_reducible show rvEq _ _ _ _) | (with_reducible show svEq _ _ _ _) | (with_reducible show cellEq _ _ _ _) | (with_reducible show blkEq _ _ _)); conv => whnf))
      all_goals first
        | omega
        | exact hsv.1
        | exact hsv.2
        | (show (skpV k (synF L).length).toNat < (synF L).length; omega)
        | rfl
        | trace_state
    intro m hm
    have hm : m < (synF L).length := hm
    have hsk := hsk (gD_mem hm)
    have hln := fun j => cutF_len ((synF L).getD m default) (L.take j) 0
    repeat' (first | (intro h; first | exact Bool.noConfusion h | (guard_hyp h : true = true; clear h) | (guard_hyp h : false = false; clear h) | (simp only [decide_eq_true_eq, decide_eq_false_iff_not, beq_iff_eq, beq_eq_false_iff_ne, bne_iff_ne, bne_eq_false_iff_eq, Bool.not_eq_true', Bool.not_eq_false', ne_eq, Classical.not_not, Bool.not_true, Bool.not_false, beqL_iff, beqL_ff, List.cons.injEq, and_true] at h) | skip) | ((conv => whnf) <;> (first | exact True.intro | apply br_rec | apply And.intro | apply EntP.k0 | apply EntP.k1 | apply EntP.k2 | apply EntP.k3 | apply EntP.k4 | apply EntP.k5 | apply EntP.k6 | apply DrawP.go | (apply AnyP.mk; kernel_rfl) | (refine AggP.go 2 rfl (by kernel_rfl) ?_) | (refine AggP.go 1 rfl (by kernel_rfl) ?_) | (refine AggP.go 3 rfl (by kernel_rfl) ?_) | (refine AggP.go 4 rfl (by kernel_rfl) ?_) | (refine AggP.go 5 rfl (by kernel_rfl) ?_) | (refine AggP.go 8 rfl (by kernel_rfl) ?_) | (refine AggP.go 11 rfl (by kernel_rfl) ?_) | apply CallP.own0 | apply CallP.own1 | apply CallP.own2 | apply CallP.own3 | apply CallP.nb | apply CutE.go0 | apply CutE.go7 | apply CutE.go6 | apply CutE.go5 | apply CutE.go4 | apply CutE.go3 | apply CutE.go2 | apply CutE.go1 | apply RoP.id | apply wrapS | (with_reducible exact lenNil) | apply Eq.refl)) | ((first | (with_reducible show rvEq _ _ _ _) | (with_reducible show svEq _ _ _ _) | (with_reducible show cellEq _ _ _ _) | (with_reducible show blkEq _ _ _)); conv => whnf))
    apply LoopP.up (G := Nat) (fun i => i ≤ L.length) [12, 13, 73, 74, 75] (fun i => [(13, .c (.osl 1)), (75, .i i)]) (fun i => [(1, .slc 53 6 (cutF ((synF L).getD m default) (L.take i) 0).length (slG encEv (cutF ((synF L).getD m default) (L.take i) 0)))]) 2 (fun i => L.length - i)
    apply And.intro
    · refine CutE.at 0 ⟨EntP.at (n := 2) [⟨false, 13, 0, 53, 6⟩] [0, 1] ?_, Nat.zero_le _⟩
      repeat' (first | (intro h; first | exact Bool.noConfusion h | (guard_hyp h : true = true; clear h) | (guard_hyp h : false = false; clear h) | (simp only [decide_eq_true_eq, decide_eq_false_iff_not, beq_iff_eq, beq_eq_false_iff_ne, bne_iff_ne, bne_eq_false_iff_eq, Bool.not_eq_true', Bool.not_eq_false', ne_eq, Classical.not_not, Bool.not_true, Bool.not_false, beqL_iff, beqL_ff, List.cons.injEq, and_true] at h) | skip) | ((conv => whnf) <;> (first | exact True.intro | apply br_rec | apply And.intro | apply EntP.k0 | apply EntP.k1 | apply EntP.k2 | apply EntP.k3 | apply EntP.k4 | apply EntP.k5 | apply EntP.k6 | apply DrawP.go | (apply AnyP.mk; kernel_rfl) | (refine AggP.go 2 rfl (by kernel_rfl) ?_) | (refine AggP.go 1 rfl (by kernel_rfl) ?_) | (refine AggP.go 3 rfl (by kernel_rfl) ?_) | (refine AggP.go 4 rfl (by kernel_rfl) ?_) | (refine AggP.go 5 rfl (by kernel_rfl) ?_) | (refine AggP.go 8 rfl (by kernel_rfl) ?_) | (refine AggP.go 11 rfl (by kernel_rfl) ?_) | apply CallP.own0 | apply CallP.own1 | apply CallP.own2 | apply CallP.own3 | apply CallP.nb | apply CutE.go0 | apply CutE.go7 | apply CutE.go6 | apply CutE.go5 | apply CutE.go4 | apply CutE.go3 | apply CutE.go2 | apply CutE.go1 | apply RoP.id | apply wrapS | (with_reducible exact lenNil) | apply Eq.refl)) | ((first | (with_reducible show rvEq _ _ _ _) | (with_reducible show svEq _ _ _ _) | (with_reducible show cellEq _ _ _ _) | (with_reducible show blkEq _ _ _)); conv => whnf))
      all_goals first
        | (rename_i i hi t; exact absurd hi (Nat.not_lt_zero _))
        | omega
        | rfl
        | trace_state
    intro i hi
    have hi : i ≤ L.length := hi
    have hln := hln i
    rw [List.length_take] at hln
    by_cases hil : i < L.length
    · have hsn := cutF_snoc (s := ((synF L).getD m default)) hil
      by_cases hrm : ((synF L).getD m default).fr ≤ i ∧ (((synF L).getD m default).to < 0 ∨ (i : Int) ≤ ((synF L).getD m default).to) ∧ (L.getD i default).2.1 = ((synF L).getD m default).th ∧ ((L.getD i default).1 = 4 ∨ (L.getD i default).1 = 5)
      · have e : cutF ((synF L).getD m default) (L.take (i + 1)) 0 = cutF ((synF L).getD m default) (L.take i) 0 := by rw [hsn, if_pos (rmB_true.2 hrm), List.append_nil]
        repeat' (first | (intro h; first | exact Bool.noConfusion h | (guard_hyp h : true = true; clear h) | (guard_hyp h : false = false; clear h) | (simp only [decide_eq_true_eq, decide_eq_false_iff_not, beq_iff_eq, beq_eq_false_iff_ne, bne_iff_ne, bne_eq_false_iff_eq, Bool.not_eq_true', Bool.not_eq_false', ne_eq, Classical.not_not, Bool.not_true, Bool.not_false, beqL_iff, beqL_ff, List.cons.injEq, and_true] at h) | skip) | ((conv => whnf) <;> (first | exact True.intro | apply br_rec | apply And.intro | refine CutE.at (A := Nat) (i + 1) ?_ | apply EntP.k0 | apply EntP.k1 | apply EntP.k2 | apply EntP.k3 | apply EntP.k4 | apply EntP.k5 | apply EntP.k6 | apply DrawP.go | (apply AnyP.mk; kernel_rfl) | (refine AggP.go 2 rfl (by kernel_rfl) ?_) | (refine AggP.go 1 rfl (by kernel_rfl) ?_) | (refine AggP.go 3 rfl (by kernel_rfl) ?_) | (refine AggP.go 4 rfl (by kernel_rfl) ?_) | (refine AggP.go 5 rfl (by kernel_rfl) ?_) | (refine AggP.go 8 rfl (by kernel_rfl) ?_) | (refine AggP.go 11 rfl (by kernel_rfl) ?_) | apply CallP.own0 | apply CallP.own1 | apply CallP.own2 | apply CallP.own3 | apply CallP.nb | apply CutE.go0 | apply CutE.go7 | apply CutE.go6 | apply CutE.go5 | apply CutE.go4 | apply CutE.go3 | apply CutE.go2 | apply CutE.go1 | apply RoP.id | apply wrapS | (with_reducible exact lenNil) | apply Eq.refl)) | ((first | (with_reducible show rvEq _ _ _ _) | (with_reducible show svEq _ _ _ _) | (with_reducible show cellEq _ _ _ _) | (with_reducible show blkEq _ _ _)); conv => whnf))
        all_goals try simp only [Int.toNat_natCast] at *
        all_goals first
          | omega
          | (show ((cutF _ (L.take i) 0).length + 1) * 48 ≤ _; omega)
          | (show L.length - (i + 1) < L.length - i; omega)
          | (show i + 1 ≤ L.length; omega)
          | (rw [e]; done)
          | trace_state
      · have e : cutF ((synF L).getD m default) (L.take (i + 1)) 0 = cutF ((synF L).getD m default) (L.take i) 0 ++ [L.getD i default] := by rw [hsn, if_neg (fun h => hrm (rmB_true.1 h))]
        repeat' (first | (intro h; first | exact Bool.noConfusion h | (guard_hyp h : true = true; clear h) | (guard_hyp h : false = false; clear h) | (simp only [decide_eq_true_eq, decide_eq_false_iff_not, beq_iff_eq, beq_eq_false_iff_ne, bne_iff_ne, bne_eq_false_iff_eq, Bool.not_eq_true', Bool.not_eq_false', ne_eq, Classical.not_not, Bool.not_true, Bool.not_false, beqL_iff, beqL_ff, List.cons.injEq, and_true] at h) | skip) | ((conv => whnf) <;> (first | exact True.intro | apply br_rec | apply And.intro | refine CutE.at (A := Nat) (i + 1) ?_ | apply EntP.k0 | apply EntP.k1 | apply EntP.k2 | apply EntP.k3 | apply EntP.k4 | apply EntP.k5 | apply EntP.k6 | apply DrawP.go | (apply AnyP.mk; kernel_rfl) | (refine AggP.go 2 rfl (by kernel_rfl) ?_) | (refine AggP.go 1 rfl (by kernel_rfl) ?_) | (refine AggP.go 3 rfl (by kernel_rfl) ?_) | (refine AggP.go 4 rfl (by kernel_rfl) ?_) | (refine AggP.go 5 rfl (by kernel_rfl) ?_) | (refine AggP.go 8 rfl (by kernel_rfl) ?_) | (refine AggP.go 11 rfl (by kernel_rfl) ?_) | apply CallP.own0 | apply CallP.own1 | apply CallP.own2 | apply CallP.own3 | apply CallP.nb | apply CutE.go0 | apply CutE.go7 | apply CutE.go6 | apply CutE.go5 | apply CutE.go4 | apply CutE.go3 | apply CutE.go2 | apply CutE.go1 | apply RoP.id | apply wrapS | (with_reducible exact lenNil) | apply Eq.refl)) | ((first | (with_reducible show rvEq _ _ _ _) | (with_reducible show svEq _ _ _ _) | (with_reducible show cellEq _ _ _ _) | (with_reducible show blkEq _ _ _)); conv => whnf))
        all_goals try simp only [Int.toNat_natCast] at *
        all_goals first
          | omega
          | (show ((cutF _ (L.take i) 0).length + 1) * 48 ≤ _; omega)
          | (show L.length - (i + 1) < L.length - i; omega)
          | (show i + 1 ≤ L.length; omega)
          | (rw [e, List.length_append]; rfl)
          | (rename_i a ha b; rw [e] at ha ⊢; exact slG_snocG rfl ha h rfl)
          | trace_state
    · have hi2 : i = L.length := by omega
      subst hi2
      have e0 : L.take L.length = L := List.take_length
      have e1 : cutF ((synF L).getD m default) (L.take L.length) 0 = cutF ((synF L).getD m default) L 0 := by rw [e0]
      repeat' (first | (intro h; first | exact Bool.noConfusion h | (guard_hyp h : true = true; clear h) | (guard_hyp h : false = false; clear h) | (simp only [decide_eq_true_eq, decide_eq_false_iff_not, beq_iff_eq, beq_eq_false_iff_ne, bne_iff_ne, bne_eq_false_iff_eq, Bool.not_eq_true', Bool.not_eq_false', ne_eq, Classical.not_not, Bool.not_true, Bool.not_false, beqL_iff, beqL_ff, List.cons.injEq, and_true] at h) | skip) | ((conv => whnf) <;> (first | exact True.intro | apply br_rec | apply And.intro | apply EntP.k0 | apply EntP.k1 | apply EntP.k2 | apply EntP.k3 | apply EntP.k4 | apply EntP.k5 | apply EntP.k6 | apply DrawP.go | (apply AnyP.mk; kernel_rfl) | (refine AggP.go 2 rfl (by kernel_rfl) ?_) | (refine AggP.go 1 rfl (by kernel_rfl) ?_) | (refine AggP.go 3 rfl (by kernel_rfl) ?_) | (refine AggP.go 4 rfl (by kernel_rfl) ?_) | (refine AggP.go 5 rfl (by kernel_rfl) ?_) | (refine AggP.go 8 rfl (by kernel_rfl) ?_) | (refine AggP.go 11 rfl (by kernel_rfl) ?_) | apply CallP.own0 | apply CallP.own1 | apply CallP.own2 | apply CallP.own3 | apply CallP.nb | apply CutE.go0 | apply CutE.go7 | apply CutE.go6 | apply CutE.go5 | apply CutE.go4 | apply CutE.go3 | apply CutE.go2 | apply CutE.go1 | apply RoP.id | apply wrapS | (with_reducible exact lenNil) | apply Eq.refl)) | ((first | (with_reducible show rvEq _ _ _ _) | (with_reducible show svEq _ _ _ _) | (with_reducible show cellEq _ _ _ _) | (with_reducible show blkEq _ _ _)); conv => whnf))
      all_goals first
        | (exfalso; omega)
        | omega
        | exact ()
        | (show (cutF _ _ 0).length ≤ 200; omega)
        | (rw [e1]; exact hsk.symm)
        | trace_state
  · repeat' (first | (intro h; first | exact Bool.noConfusion h | (guard_hyp h : true = true; clear h) | (guard_hyp h : false = false; clear h) | (simp only [decide_eq_true_eq, decide_eq_false_iff_not, beq_iff_eq, beq_eq_false_iff_ne, bne_iff_ne, bne_eq_false_iff_eq, Bool.not_eq_true', Bool.not_eq_false', ne_eq, Classical.not_not, Bool.not_true, Bool.not_false, beqL_iff, beqL_ff, List.cons.injEq, and_true] at h) | skip) | ((conv => whnf) <;> (first | exact True.intro | apply br_rec | apply And.intro | apply EntP.k0 | apply EntP.k1 | apply EntP.k2 | apply EntP.k3 | apply EntP.k4 | apply EntP.k5 | apply EntP.k6 | apply DrawP.go | (apply AnyP.mk; kernel_rfl) | (refine AggP.go 2 rfl (by kernel_rfl) ?_) | (refine AggP.go 1 rfl (by kernel_rfl) ?_) | (refine AggP.go 3 rfl (by kernel_rfl) ?_) | (refine AggP.go 4 rfl (by kernel_rfl) ?_) | (refine AggP.go 5 rfl (by kernel_rfl) ?_) | (refine AggP.go 8 rfl (by kernel_rfl) ?_) | (refine AggP.go 11 rfl (by kernel_rfl) ?_) | apply CallP.own0 | apply CallP.own1 | apply CallP.own2 | apply CallP.own3 | apply CallP.nb | apply CutE.go0 | apply CutE.go7 | apply CutE.go6 | apply CutE.go5 | apply CutE.go4 | apply CutE.go3 | apply CutE.go2 | apply CutE.go1 | apply RoP.id | apply wrapS | (with_reducible exact lenNil) | apply Eq.refl)) | ((first | (with_reducible show rvEq _ _ _ _) | (with_reducible show svEq _ _ _ _) | (with_reducible show cellEq _ _ _ _) | (with_reducible show blkEq _ _ _)); conv => whnf))
    all_goals first | (show (l.take 60).length ≤ 200; omega) | (exfalso; exact absurd (by assumption) hr) | exact ()
end Go.Eng
