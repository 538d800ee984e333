/- Grace: sections, syncs, and the check. -/
import Derived.Test.YthhangpcedbhdaaGrC
set_option linter.unusedVariables false
set_option linter.unusedSimpArgs false
namespace Go.Eng
open Go Go.Proofs

def secF (l : List Ev) : List Sc := strF l 2 3 l.length
def synF (l : List Ev) : List Sc := strF l 4 5 1
def sSections : FSpec := spec (List Ev) (fun l => [.c (evsS l)]) (fun l => l.length ≤ 200) fun l => .c (scsS (secF l))
def sSyncs : FSpec := spec (List Ev) (fun l => [.c (evsS l)]) (fun l => l.length ≤ 200) fun l => .c (scsS (synF l))
def G2 : List (Nat × FSpec) := [(42, sStr)]
theorem G2_ok : GOK Try.prog (tab G2) := gok_cons str_ok (gok_nil _)
set_option maxHeartbeats 4000000 in
set_option maxRecDepth 100000 in
theorem sections_ok : Meets Try.prog 29 sSections := by
  refine meets_plain G2_ok rfl [] (fn := Try.f29) rfl rfl rfl (by decide) fun l hl => ?_
  have hl : l.length ≤ 200 := hl
  repeat' (first | (intro h; first | exact Bool.noConfusion h | (guard_hyp h : true = true; clear h) | (guard_hyp h : false = false; clear h) | (simp only [decide_eq_true_eq, decide_eq_false_iff_not, beq_iff_eq, beq_eq_false_iff_ne, bne_iff_ne, bne_eq_false_iff_eq, Bool.not_eq_true', Bool.not_eq_false', ne_eq, Classical.not_not, Bool.not_true, Bool.not_false, beqL_iff, beqL_ff, List.cons.injEq, and_true] at h) | skip) | ((conv => whnf) <;> (first | exact True.intro | apply br_rec | apply And.intro | refine CutE.at (A := List Ev × Int × Int × Int) (l, 2, 3, (l.length : Int)) ?_ | apply EntP.k0 | apply EntP.k1 | apply EntP.k2 | apply EntP.k3 | apply EntP.k4 | apply EntP.k5 | apply EntP.k6 | apply DrawP.go | (apply AnyP.mk; kernel_rfl) | (refine AggP.go 2 rfl (by kernel_rfl) ?_) | (refine AggP.go 1 rfl (by kernel_rfl) ?_) | (refine AggP.go 3 rfl (by kernel_rfl) ?_) | (refine AggP.go 4 rfl (by kernel_rfl) ?_) | (refine AggP.go 5 rfl (by kernel_rfl) ?_) | (refine AggP.go 8 rfl (by kernel_rfl) ?_) | (refine AggP.go 11 rfl (by kernel_rfl) ?_) | apply CallP.own0 | apply CallP.own1 | apply CallP.own2 | apply CallP.own3 | apply CallP.nb | apply CutE.go0 | apply CutE.go7 | apply CutE.go6 | apply CutE.go5 | apply CutE.go4 | apply CutE.go3 | apply CutE.go2 | apply CutE.go1 | apply RoP.id | apply wrapS | (with_reducible exact lenNil) | apply Eq.refl)) | ((first | (with_reducible show rvEq _ _ _ _) | (with_reducible show svEq _ _ _ _) | (with_reducible show cellEq _ _ _ _) | (with_reducible show blkEq _ _ _)); conv => whnf))
  all_goals first
    | exact hl
    | omega
    | trace_state
set_option maxHeartbeats 4000000 in
set_option maxRecDepth 100000 in
theorem syncs_ok : Meets Try.prog 32 sSyncs := by
  refine meets_plain G2_ok rfl [] (fn := Try.f32) rfl rfl rfl (by decide) fun l hl => ?_
  have hl : l.length ≤ 200 := hl
  repeat' (first | (intro h; first | exact Bool.noConfusion h | (guard_hyp h : true = true; clear h) | (guard_hyp h : false = false; clear h) | (simp only [decide_eq_true_eq, decide_eq_false_iff_not, beq_iff_eq, beq_eq_false_iff_ne, bne_iff_ne, bne_eq_false_iff_eq, Bool.not_eq_true', Bool.not_eq_false', ne_eq, Classical.not_not, Bool.not_true, Bool.not_false, beqL_iff, beqL_ff, List.cons.injEq, and_true] at h) | skip) | ((conv => whnf) <;> (first | exact True.intro | apply br_rec | apply And.intro | refine CutE.at (A := List Ev × Int × Int × Int) (l, 4, 5, 1) ?_ | apply EntP.k0 | apply EntP.k1 | apply EntP.k2 | apply EntP.k3 | apply EntP.k4 | apply EntP.k5 | apply EntP.k6 | apply DrawP.go | (apply AnyP.mk; kernel_rfl) | (refine AggP.go 2 rfl (by kernel_rfl) ?_) | (refine AggP.go 1 rfl (by kernel_rfl) ?_) | (refine AggP.go 3 rfl (by kernel_rfl) ?_) | (refine AggP.go 4 rfl (by kernel_rfl) ?_) | (refine AggP.go 5 rfl (by kernel_rfl) ?_) | (refine AggP.go 8 rfl (by kernel_rfl) ?_) | (refine AggP.go 11 rfl (by kernel_rfl) ?_) | apply CallP.own0 | apply CallP.own1 | apply CallP.own2 | apply CallP.own3 | apply CallP.nb | apply CutE.go0 | apply CutE.go7 | apply CutE.go6 | apply CutE.go5 | apply CutE.go4 | apply CutE.go3 | apply CutE.go2 | apply CutE.go1 | apply RoP.id | apply wrapS | (with_reducible exact lenNil) | apply Eq.refl)) | ((first | (with_reducible show rvEq _ _ _ _) | (with_reducible show svEq _ _ _ _) | (with_reducible show cellEq _ _ _ _) | (with_reducible show blkEq _ _ _)); conv => whnf))
  all_goals first
    | exact hl
    | omega
    | trace_state
def spnF (a s : Sc) : Bool := decide (a.fr < s.fr ∧ 0 ≤ s.to ∧ (a.to < 0 ∨ s.to < a.to))
def sSpn : FSpec := spec (Sc × Sc) (fun (a, s) => [.agg (encSc a), .agg (encSc s)]) (fun _ => True) fun (a, s) => .b (spnF a s)
theorem CutE.goSc2 {p : Sc × Sc → Prop} {a0 a1 a2 b0 b1 b2 : Int} (h : p (⟨a0, a1, a2⟩, ⟨b0, b1, b2⟩)) : CutE (Sc × Sc) p := ⟨⟨_, h⟩⟩
set_option maxHeartbeats 4000000 in
set_option maxRecDepth 100000 in
theorem spn_ok : Meets Try.prog 43 sSpn := by
  refine meets_plain (gok_nil _) rfl [] (fn := Try.f43) rfl rfl rfl (by decide) fun ⟨⟨a0, a1, a2⟩, ⟨b0, b1, b2⟩⟩ _ => ?_
  repeat' (first | (intro h; first | exact Bool.noConfusion h | (guard_hyp h : true = true; clear h) | (guard_hyp h : false = false; clear h) | (simp only [decide_eq_true_eq, decide_eq_false_iff_not, beq_iff_eq, beq_eq_false_iff_ne, bne_iff_ne, bne_eq_false_iff_eq, Bool.not_eq_true', Bool.not_eq_false', ne_eq, Classical.not_not, Bool.not_true, Bool.not_false, beqL_iff, beqL_ff, List.cons.injEq, and_true] at h) | skip) | ((conv => whnf) <;> (first | exact True.intro | apply br_rec | apply And.intro | apply EntP.k0 | apply EntP.k1 | apply EntP.k2 | apply EntP.k3 | apply EntP.k4 | apply EntP.k5 | apply EntP.k6 | apply DrawP.go | (apply AnyP.mk; kernel_rfl) | (refine AggP.go 2 rfl (by kernel_rfl) ?_) | (refine AggP.go 1 rfl (by kernel_rfl) ?_) | (refine AggP.go 3 rfl (by kernel_rfl) ?_) | (refine AggP.go 4 rfl (by kernel_rfl) ?_) | (refine AggP.go 5 rfl (by kernel_rfl) ?_) | (refine AggP.go 8 rfl (by kernel_rfl) ?_) | (refine AggP.go 11 rfl (by kernel_rfl) ?_) | apply CallP.own0 | apply CallP.own1 | apply CallP.own2 | apply CallP.own3 | apply CallP.nb | apply CutE.go0 | apply CutE.go7 | apply CutE.go6 | apply CutE.go5 | apply CutE.go4 | apply CutE.go3 | apply CutE.go2 | apply CutE.go1 | apply RoP.id | apply wrapS | (with_reducible exact lenNil) | apply Eq.refl)) | ((first | (with_reducible show rvEq _ _ _ _) | (with_reducible show svEq _ _ _ _) | (with_reducible show cellEq _ _ _ _) | (with_reducible show blkEq _ _ _)); conv => whnf))
  all_goals first
    | (show decide (a1 < b1 ∧ 0 ≤ b2 ∧ (a2 < 0 ∨ b2 < a2)) = _; (first | (apply decide_eq_false; omega) | (apply decide_eq_true; omega) | (congr 1; apply propext; omega)))
    | (show decide (a1 < b1 ∧ 0 ≤ b2 ∧ (a2 < 0 ∨ b2 < a2)) = decide (a2 > b2); congr 1; apply propext; omega)
    | (show decide (a1 < b1 ∧ 0 ≤ b2 ∧ (a2 < 0 ∨ b2 < a2)) = false; apply decide_eq_false; intro hh; simp only at *; omega)
    | trace_state
/-- The first section that spans a sync. -/
def gchk (y : List Sc) : List Sc → Nat → Int × Bool
  | [], _ => (0, true)
  | a :: r, i => if y.any (spnF a) = true then (i, false) else gchk y r (i + 1)
def chkF (l : List Ev) : Int × Bool := gchk (synF l) (secF l) 0
theorem strW_len (i o most : Int) : ∀ (l : List Ev) (k : Nat) (g : OpG), (strW i o most l k g).1.length ≤ g.1.length + l.length
  | [], _, g => Nat.le_refl _
  | x :: r, k, g => by
    have h1 := strW_len i o most r (k + 1) (strS i o most g k x)
    have h2 : (strS i o most g k x).1.length ≤ g.1.length + 1 := by
      unfold strS
      split
      · unfold inG
        split
        · show (g.1 ++ [_]).length ≤ _; rw [List.length_append]; exact Nat.le_refl _
        · exact Nat.le_succ _
      split
      · rw [outG_len]; exact Nat.le_succ _
      · exact Nat.le_succ _
    rw [strW, List.length_cons]
    omega
theorem strF_len (l : List Ev) (i o most : Int) : (strF l i o most).length ≤ l.length := by
  have := strW_len i o most l 0 op0
  have e : op0.1.length = 0 := rfl
  rw [e] at this
  show (strW i o most l 0 op0).1.length ≤ _
  omega
def sCheck : FSpec := spec (List Ev) (fun l => [.c (evsS l)]) (fun l => l.length ≤ 200) fun l => .tup [.c (.i (chkF l).1), .c (.b (chkF l).2)]
def G3 : List (Nat × FSpec) := [(29, sSections), (32, sSyncs), (43, sSpn)]
theorem G3_ok : GOK Try.prog (tab G3) := gok_cons sections_ok (gok_cons syncs_ok (gok_cons spn_ok (gok_nil _)))
theorem any_yes {y : List Sc} {a : Sc} {j : Nat} (hj : j < y.length) (h : spnF a (y.getD j default) = true) : y.any (spnF a) = true := by
  rw [List.any_eq_true]
  refine ⟨y.getD j default, ?_, h⟩
  rw [List.getD_eq_getElem?_getD, List.getElem?_eq_getElem hj]
  exact List.getElem_mem hj
theorem any_no {y : List Sc} {a : Sc} {k : Nat} (hk : y.length ≤ k) (h : Up k fun j => spnF a (y.getD j default) = false) : y.any (spnF a) = false := by
  rw [List.any_eq_false]
  intro x hx
  obtain ⟨j, hj, e⟩ := List.mem_iff_getElem.1 hx
  have := h.get j (by omega)
  rw [List.getD_eq_getElem?_getD, List.getElem?_eq_getElem hj] at this
  have e2 : y[j] = x := e
  simp only [Option.getD_some, e2] at this
  rw [this]; exact Bool.noConfusion
theorem chk_yes {y z : List Sc} {i : Nat} (hi : i < z.length) (h : y.any (spnF (z.getD i default)) = true) : gchk y (z.drop i) i = ((i : Int), false) := by rw [drop_getD (d := default) hi, gchk, if_pos h]
theorem chk_no {y z : List Sc} {i : Nat} (hi : i < z.length) (h : y.any (spnF (z.getD i default)) = false) : gchk y (z.drop i) i = gchk y (z.drop (i + 1)) (i + 1) := by rw [drop_getD (d := default) hi, gchk, h]; rfl
set_option maxHeartbeats 8000000 in
set_option maxRecDepth 100000 in
theorem check_ok : Meets Try.prog 31 sCheck := by
  refine meets_plain G3_ok rfl [] (fn := Try.f31) rfl rfl rfl (by decide) fun l hl => ?_
  have hl : l.length ≤ 200 := hl
  have hz : (secF l).length ≤ 200 := Nat.le_trans (strF_len l 2 3 l.length) hl
  have hy : (synF l).length ≤ 200 := Nat.le_trans (strF_len l 4 5 1) hl
  repeat' (first | (intro h; first | exact Bool.noConfusion h | (guard_hyp h : true = true; clear h) | (guard_hyp h : false = false; clear h) | (simp only [decide_eq_true_eq, decide_eq_false_iff_not, beq_iff_eq, beq_eq_false_iff_ne, bne_iff_ne, bne_eq_false_iff_eq, Bool.not_eq_true', Bool.not_eq_false', ne_eq, Classical.not_not, Bool.not_true, Bool.not_false, beqL_iff, beqL_ff, List.cons.injEq, and_true] at h) | skip) | ((conv => whnf) <;> (first | exact True.intro | apply br_rec | apply And.intro | apply EntP.k0 | apply EntP.k1 | apply EntP.k2 | apply EntP.k3 | apply EntP.k4 | apply EntP.k5 | apply EntP.k6 | apply DrawP.go | (apply AnyP.mk; kernel_rfl) | (refine AggP.go 2 rfl (by kernel_rfl) ?_) | (refine AggP.go 1 rfl (by kernel_rfl) ?_) | (refine AggP.go 3 rfl (by kernel_rfl) ?_) | (refine AggP.go 4 rfl (by kernel_rfl) ?_) | (refine AggP.go 5 rfl (by kernel_rfl) ?_) | (refine AggP.go 8 rfl (by kernel_rfl) ?_) | (refine AggP.go 11 rfl (by kernel_rfl) ?_) | apply CallP.own0 | apply CallP.own1 | apply CallP.own2 | apply CallP.own3 | apply CallP.nb | apply CutE.go0 | apply CutE.go7 | apply CutE.go6 | apply CutE.go5 | apply CutE.go4 | apply CutE.go3 | apply CutE.go2 | apply CutE.go1 | apply RoP.id | apply wrapS | (with_reducible exact lenNil) | apply Eq.refl)) | ((first | (with_reducible show rvEq _ _ _ _) | (with_reducible show svEq _ _ _ _) | (with_reducible show cellEq _ _ _ _) | (with_reducible show blkEq _ _ _)); conv => whnf))
  all_goals try exact hl
  apply LoopP.up (G := Nat) (fun i => i ≤ (secF l).length ∧ chkF l = gchk (synF l) ((secF l).drop i) i) [4, 12, 13, 14] (fun i => [(14, .i i)]) (fun _ => []) 0 (fun i => (secF l).length - i)
  apply And.intro
  · refine CutE.at 0 ?_
    repeat' (first | (intro h; first | exact Bool.noConfusion h | (guard_hyp h : true = true; clear h) | (guard_hyp h : false = false; clear h) | (simp only [decide_eq_true_eq, decide_eq_false_iff_not, beq_iff_eq, beq_eq_false_iff_ne, bne_iff_ne, bne_eq_false_iff_eq, Bool.not_eq_true', Bool.not_eq_false', ne_eq, Classical.not_not, Bool.not_true, Bool.not_false, beqL_iff, beqL_ff, List.cons.injEq, and_true] at h) | skip) | ((conv => whnf) <;> (first | exact True.intro | apply br_rec | apply And.intro | apply EntP.k0 | apply EntP.k1 | apply EntP.k2 | apply EntP.k3 | apply EntP.k4 | apply EntP.k5 | apply EntP.k6 | apply DrawP.go | (apply AnyP.mk; kernel_rfl) | (refine AggP.go 2 rfl (by kernel_rfl) ?_) | (refine AggP.go 1 rfl (by kernel_rfl) ?_) | (refine AggP.go 3 rfl (by kernel_rfl) ?_) | (refine AggP.go 4 rfl (by kernel_rfl) ?_) | (refine AggP.go 5 rfl (by kernel_rfl) ?_) | (refine AggP.go 8 rfl (by kernel_rfl) ?_) | (refine AggP.go 11 rfl (by kernel_rfl) ?_) | apply CallP.own0 | apply CallP.own1 | apply CallP.own2 | apply CallP.own3 | apply CallP.nb | apply CutE.go0 | apply CutE.go7 | apply CutE.go6 | apply CutE.go5 | apply CutE.go4 | apply CutE.go3 | apply CutE.go2 | apply CutE.go1 | apply RoP.id | apply wrapS | (with_reducible exact lenNil) | apply Eq.refl)) | ((first | (with_reducible show rvEq _ _ _ _) | (with_reducible show svEq _ _ _ _) | (with_reducible show cellEq _ _ _ _) | (with_reducible show blkEq _ _ _)); conv => whnf))
    all_goals first | exact Nat.zero_le _ | rfl | trace_state
  rintro i ⟨hi, hI⟩
  have hi : i ≤ (secF l).length := hi
  by_cases hiz : i < (secF l).length
  · repeat' (first | (intro h; first | exact Bool.noConfusion h | (guard_hyp h : true = true; clear h) | (guard_hyp h : false = false; clear h) | (simp only [decide_eq_true_eq, decide_eq_false_iff_not, beq_iff_eq, beq_eq_false_iff_ne, bne_iff_ne, bne_eq_false_iff_eq, Bool.not_eq_true', Bool.not_eq_false', ne_eq, Classical.not_not, Bool.not_true, Bool.not_false, beqL_iff, beqL_ff, List.cons.injEq, and_true] at h) | skip) | ((conv => whnf) <;> (first | exact True.intro | apply br_rec | apply And.intro | refine CutE.at (A := Nat) (i + 1) ?_ | apply CutE.goSc2 | apply EntP.k0 | apply EntP.k1 | apply EntP.k2 | apply EntP.k3 | apply EntP.k4 | apply EntP.k5 | apply EntP.k6 | apply DrawP.go | (apply AnyP.mk; kernel_rfl) | (refine AggP.go 2 rfl (by kernel_rfl) ?_) | (refine AggP.go 1 rfl (by kernel_rfl) ?_) | (refine AggP.go 3 rfl (by kernel_rfl) ?_) | (refine AggP.go 4 rfl (by kernel_rfl) ?_) | (refine AggP.go 5 rfl (by kernel_rfl) ?_) | (refine AggP.go 8 rfl (by kernel_rfl) ?_) | (refine AggP.go 11 rfl (by kernel_rfl) ?_) | apply CallP.own0 | apply CallP.own1 | apply CallP.own2 | apply CallP.own3 | apply CallP.nb | apply CutE.go0 | apply CutE.go7 | apply CutE.go6 | apply CutE.go5 | apply CutE.go4 | apply CutE.go3 | apply CutE.go2 | apply CutE.go1 | apply RoP.id | apply wrapS | (with_reducible exact lenNil) | apply Eq.refl)) | ((first | (with_reducible show rvEq _ _ _ _) | (with_reducible show svEq _ _ _ _) | (with_reducible show cellEq _ _ _ _) | (with_reducible show blkEq _ _ _)); conv => whnf))
    all_goals try omega
    apply LoopP.up (G := Nat × Unit) (fun j => j.1 ≤ (synF l).length ∧ Up j.1 fun j => spnF ((secF l).getD i default) ((synF l).getD j default) = false) [4, 5, 6, 12, 13, 14, 19, 20, 21] (fun j => [(21, .i j.1)]) (fun _ => []) 1 (fun j => (synF l).length - j.1)
    apply And.intro
    · refine CutE.at (0, ()) ?_
      repeat' (first | (intro h; first | exact Bool.noConfusion h | (guard_hyp h : true = true; clear h) | (guard_hyp h : false = false; clear h) | (simp only [decide_eq_true_eq, decide_eq_false_iff_not, beq_iff_eq, beq_eq_false_iff_ne, bne_iff_ne, bne_eq_false_iff_eq, Bool.not_eq_true', Bool.not_eq_false', ne_eq, Classical.not_not, Bool.not_true, Bool.not_false, beqL_iff, beqL_ff, List.cons.injEq, and_true] at h) | skip) | ((conv => whnf) <;> (first | exact True.intro | apply br_rec | apply And.intro | apply EntP.k0 | apply EntP.k1 | apply EntP.k2 | apply EntP.k3 | apply EntP.k4 | apply EntP.k5 | apply EntP.k6 | apply DrawP.go | (apply AnyP.mk; kernel_rfl) | (refine AggP.go 2 rfl (by kernel_rfl) ?_) | (refine AggP.go 1 rfl (by kernel_rfl) ?_) | (refine AggP.go 3 rfl (by kernel_rfl) ?_) | (refine AggP.go 4 rfl (by kernel_rfl) ?_) | (refine AggP.go 5 rfl (by kernel_rfl) ?_) | (refine AggP.go 8 rfl (by kernel_rfl) ?_) | (refine AggP.go 11 rfl (by kernel_rfl) ?_) | apply CallP.own0 | apply CallP.own1 | apply CallP.own2 | apply CallP.own3 | apply CallP.nb | apply CutE.go0 | apply CutE.go7 | apply CutE.go6 | apply CutE.go5 | apply CutE.go4 | apply CutE.go3 | apply CutE.go2 | apply CutE.go1 | apply RoP.id | apply wrapS | (with_reducible exact lenNil) | apply Eq.refl)) | ((first | (with_reducible show rvEq _ _ _ _) | (with_reducible show svEq _ _ _ _) | (with_reducible show cellEq _ _ _ _) | (with_reducible show blkEq _ _ _)); conv => whnf))
      all_goals first | exact Nat.zero_le _ | exact Up.zero _ | rfl | trace_state
    rintro ⟨j, _⟩ ⟨hj, hu⟩
    have hj : j ≤ (synF l).length := hj
    have hu : Up j fun j => spnF ((secF l).getD i default) ((synF l).getD j default) = false := hu
    repeat' (first | (intro h; first | exact Bool.noConfusion h | (guard_hyp h : true = true; clear h) | (guard_hyp h : false = false; clear h) | (simp only [decide_eq_true_eq, decide_eq_false_iff_not, beq_iff_eq, beq_eq_false_iff_ne, bne_iff_ne, bne_eq_false_iff_eq, Bool.not_eq_true', Bool.not_eq_false', ne_eq, Classical.not_not, Bool.not_true, Bool.not_false, beqL_iff, beqL_ff, List.cons.injEq, and_true] at h) | skip) | ((conv => whnf) <;> (first | exact True.intro | apply br_rec | apply And.intro | refine CutE.at (A := Nat × Unit) (j + 1, ()) ?_ | refine CutE.at (A := Nat) (i + 1) ?_ | apply CutE.goSc2 | apply EntP.k0 | apply EntP.k1 | apply EntP.k2 | apply EntP.k3 | apply EntP.k4 | apply EntP.k5 | apply EntP.k6 | apply DrawP.go | (apply AnyP.mk; kernel_rfl) | (refine AggP.go 2 rfl (by kernel_rfl) ?_) | (refine AggP.go 1 rfl (by kernel_rfl) ?_) | (refine AggP.go 3 rfl (by kernel_rfl) ?_) | (refine AggP.go 4 rfl (by kernel_rfl) ?_) | (refine AggP.go 5 rfl (by kernel_rfl) ?_) | (refine AggP.go 8 rfl (by kernel_rfl) ?_) | (refine AggP.go 11 rfl (by kernel_rfl) ?_) | apply CallP.own0 | apply CallP.own1 | apply CallP.own2 | apply CallP.own3 | apply CallP.nb | apply CutE.go0 | apply CutE.go7 | apply CutE.go6 | apply CutE.go5 | apply CutE.go4 | apply CutE.go3 | apply CutE.go2 | apply CutE.go1 | apply RoP.id | apply wrapS | (with_reducible exact lenNil) | apply Eq.refl)) | ((first | (with_reducible show rvEq _ _ _ _) | (with_reducible show svEq _ _ _ _) | (with_reducible show cellEq _ _ _ _) | (with_reducible show blkEq _ _ _)); conv => whnf))
    all_goals try simp only [Int.toNat_natCast] at *
    all_goals first
      | omega
      | (show (synF l).length - (j + 1) < (synF l).length - j; omega)
      | (show j + 1 ≤ (synF l).length; omega)
      | exact hu.succ (by assumption)
      | (rw [hI, chk_yes hiz (any_yes (j := j) (by omega) (by assumption))]; done)
      | (show (secF l).length - (i + 1) < (secF l).length - i; omega)
      | (show i + 1 ≤ (secF l).length; omega)
      | (rw [hI, chk_no hiz (any_no (by omega) hu)]; done)
      | trace_state
  · repeat' (first | (intro h; first | exact Bool.noConfusion h | (guard_hyp h : true = true; clear h) | (guard_hyp h : false = false; clear h) | (simp only [decide_eq_true_eq, decide_eq_false_iff_not, beq_iff_eq, beq_eq_false_iff_ne, bne_iff_ne, bne_eq_false_iff_eq, Bool.not_eq_true', Bool.not_eq_false', ne_eq, Classical.not_not, Bool.not_true, Bool.not_false, beqL_iff, beqL_ff, List.cons.injEq, and_true] at h) | skip) | ((conv => whnf) <;> (first | exact True.intro | apply br_rec | apply And.intro | refine CutE.at (A := Nat) (i + 1) ?_ | apply CutE.goSc2 | apply EntP.k0 | apply EntP.k1 | apply EntP.k2 | apply EntP.k3 | apply EntP.k4 | apply EntP.k5 | apply EntP.k6 | apply DrawP.go | (apply AnyP.mk; kernel_rfl) | (refine AggP.go 2 rfl (by kernel_rfl) ?_) | (refine AggP.go 1 rfl (by kernel_rfl) ?_) | (refine AggP.go 3 rfl (by kernel_rfl) ?_) | (refine AggP.go 4 rfl (by kernel_rfl) ?_) | (refine AggP.go 5 rfl (by kernel_rfl) ?_) | (refine AggP.go 8 rfl (by kernel_rfl) ?_) | (refine AggP.go 11 rfl (by kernel_rfl) ?_) | apply CallP.own0 | apply CallP.own1 | apply CallP.own2 | apply CallP.own3 | apply CallP.nb | apply CutE.go0 | apply CutE.go7 | apply CutE.go6 | apply CutE.go5 | apply CutE.go4 | apply CutE.go3 | apply CutE.go2 | apply CutE.go1 | apply RoP.id | apply wrapS | (with_reducible exact lenNil) | apply Eq.refl)) | ((first | (with_reducible show rvEq _ _ _ _) | (with_reducible show svEq _ _ _ _) | (with_reducible show cellEq _ _ _ _) | (with_reducible show blkEq _ _ _)); conv => whnf))
    all_goals first
      | (exfalso; omega)
      | (rw [hI, List.drop_eq_nil_of_le (by omega)]; rfl)
      | trace_state
end Go.Eng
