/- PoolApart, walked. -/
import Derived.Test.YtmjogckeaaaicaaPoJ
set_option linter.unusedVariables false
set_option linter.unusedSimpArgs false
namespace Go.Eng
open Go Go.Proofs

def nnF (n m : Int) : Int := (IntKind.i64.wrap (IntKind.i64.wrap (n.tmod (IntKind.i64.wrap (m + 1)) + m) + 1)).tmod (IntKind.i64.wrap (m + 1))
theorem nnF_ok {n m : Int} (hm : 0 ≤ m ∧ m ≤ 16) : 0 ≤ nnF n m ∧ nnF n m ≤ m := by
  unfold nnF
  rw [wrap_i64 (x := m + 1) (by omega)]
  have h1 := Int.tmod_lt_of_pos n (b := m + 1) (by omega)
  have h2 := Int.lt_tmod_of_pos n (b := m + 1) (by omega)
  rw [wrap_i64 (x := n.tmod (m + 1) + m) (by omega), wrap_i64 (by omega)]
  have h3 := Int.tmod_lt_of_pos (n.tmod (m + 1) + m + 1) (b := m + 1) (by omega)
  have h4 := Int.tmod_nonneg (a := n.tmod (m + 1) + m + 1) (m + 1) (by omega)
  omega
theorem tk_get {s b m : Int} {N j : Nat} (hN : N ≤ m.toNat) (hj : j < N) : ((bl s b m).take N).getD j default = b + (j : Int) * s := by
  rw [List.getD_eq_getElem?_getD, List.getElem?_take_of_lt hj, ← List.getD_eq_getElem?_getD]
  exact bl_get (by omega)
theorem tk_has {s b m : Int} {N j : Nat} (hN : N ≤ m.toNat) (hj : j < N) : ((bl s b m).take N).contains (b + (j : Int) * s) = true := by
  refine has_iff.2 ⟨j, by rw [List.length_take, bl_len]; omega, tk_get hN hj⟩
theorem tk_len {s b m : Int} {N : Nat} (hN : N ≤ m.toNat) : ((bl s b m).take N).length = N := by rw [List.length_take, bl_len]; omega
def sPApart : FSpec := spec (Int × Int × Int × Int × Int) (fun (s, b, m, n, t) => [.i s, .i b, .i m, .i n, .i t]) (fun _ => True) fun _ => .b true
set_option maxHeartbeats 16000000 in
set_option maxRecDepth 100000 in
theorem papart_ok : Meets Try.prog 10 sPApart := by
  refine meets_plain P6_ok rfl [7] (fn := Try.f10) rfl rfl rfl (by decide) fun ⟨s, b, m, n, t⟩ _ => ?_
  cases hz : sizeP s b m with
  | false =>
    have hx := newP_no hz
    repeat' (first | (intro h; first | exact Bool.noConfusion h | (guard_hyp h : true = true; clear h) | (guard_hyp h : false = false; clear h) | (simp only [decide_eq_true_eq, decide_eq_false_iff_not, beq_iff_eq, beq_eq_false_iff_ne, bne_iff_ne, bne_eq_false_iff_eq, Bool.not_eq_true', Bool.not_eq_false', ne_eq, Classical.not_not, Bool.not_true, Bool.not_false, beqL_iff, beqL_ff, List.cons.injEq, and_true] at h) | skip) | ((conv => whnf) <;> (first | exact True.intro | apply br_rec | apply And.intro | apply EntP.k0 | apply EntP.k1 | apply EntP.k2 | apply EntP.k3 | apply EntP.k4 | apply EntP.k5 | apply EntP.k6 | apply DrawP.go | (apply AnyP.mk; kernel_rfl) | (refine AggP.go 2 rfl (by kernel_rfl) ?_) | (refine AggP.go 1 rfl (by kernel_rfl) ?_) | (refine AggP.go 3 rfl (by kernel_rfl) ?_) | (refine AggP.go 4 rfl (by kernel_rfl) ?_) | (refine AggP.go 5 rfl (by kernel_rfl) ?_) | (refine AggP.go 8 rfl (by kernel_rfl) ?_) | (refine AggP.go 11 rfl (by kernel_rfl) ?_) | apply CallP.own0 | apply CallP.own1 | apply CallP.own2 | apply CallP.own3 | apply CallP.nb | apply CutE.go0 | apply CutE.go7 | apply CutE.go6 | apply CutE.go5 | apply CutE.go4 | apply CutE.go3 | apply CutE.go2 | apply CutE.go1 | apply RoP.id | apply wrapS | (with_reducible exact lenNil) | apply Eq.refl)) | ((first | (with_reducible show rvEq _ _ _ _) | (with_reducible show svEq _ _ _ _) | (with_reducible show cellEq _ _ _ _) | (with_reducible show blkEq _ _ _)); conv => whnf))
    all_goals first
      | (rw [hx]; rfl)
      | (exfalso; rw [hx] at h; exact absurd h (by decide))
      | (exfalso; have h' : (newP s b m).2 = 0 := by assumption
         rw [hx] at h'; exact absurd h' (by decide))
      | trace_state
  | true =>
  have hx := newP_yes hz
  have hp := sizeP_ok hz []
  have s1 : 1 ≤ s := hp.s1
  have s8 : s ≤ 8 := hp.s8
  have b1 : 1 ≤ b := hp.b1
  have b160 : b ≤ 160 := hp.b160
  have hm : 0 ≤ m ∧ m ≤ 16 := ⟨hp.m0, hp.m16⟩
  have hprod := prod_le ⟨s1, s8⟩ hm
  have hnn := nnF_ok (n := n) hm
  have hm1 : ¬ IntKind.i64.wrap (m + 1) = 0 := by rw [wrap_i64 (by omega)]; omega
  repeat' (first | (intro h; first | exact Bool.noConfusion h | (guard_hyp h : true = true; clear h) | (guard_hyp h : false = false; clear h) | (simp only [decide_eq_true_eq, decide_eq_false_iff_not, beq_iff_eq, beq_eq_false_iff_ne, bne_iff_ne, bne_eq_false_iff_eq, Bool.not_eq_true', Bool.not_eq_false', ne_eq, Classical.not_not, Bool.not_true, Bool.not_false, beqL_iff, beqL_ff, List.cons.injEq, and_true] at h) | skip) | ((conv => whnf) <;> (first | exact True.intro | apply br_rec | apply And.intro | apply EntP.k0 | apply EntP.k1 | apply EntP.k2 | apply EntP.k3 | apply EntP.k4 | apply EntP.k5 | apply EntP.k6 | apply DrawP.go | (apply AnyP.mk; kernel_rfl) | (refine AggP.go 2 rfl (by kernel_rfl) ?_) | (refine AggP.go 1 rfl (by kernel_rfl) ?_) | (refine AggP.go 3 rfl (by kernel_rfl) ?_) | (refine AggP.go 4 rfl (by kernel_rfl) ?_) | (refine AggP.go 5 rfl (by kernel_rfl) ?_) | (refine AggP.go 8 rfl (by kernel_rfl) ?_) | (refine AggP.go 11 rfl (by kernel_rfl) ?_) | apply CallP.own0 | apply CallP.own1 | apply CallP.own2 | apply CallP.own3 | apply CallP.nb | apply CutE.go0 | apply CutE.go7 | apply CutE.go6 | apply CutE.go5 | apply CutE.go4 | apply CutE.go3 | apply CutE.go2 | apply CutE.go1 | apply RoP.id | apply wrapS | (with_reducible exact lenNil) | apply Eq.refl)) | ((first | (with_reducible show rvEq _ _ _ _) | (with_reducible show svEq _ _ _ _) | (with_reducible show cellEq _ _ _ _) | (with_reducible show blkEq _ _ _)); conv => whnf))
  rotate_right 1
  · apply CutP.up (G := Nat) (fun N => N ≤ m.toNat) [0, 1, 2, 3, 4, 11] (fun N => [(3, .i N), (11, .c (.ptr 0 0))]) (fun N => [(0, .row 48 (plC (s, b, m, fre s b m 0)))]) 1
    apply And.intro
    · repeat' (first | (intro h; first | exact Bool.noConfusion h | (guard_hyp h : true = true; clear h) | (guard_hyp h : false = false; clear h) | (simp only [decide_eq_true_eq, decide_eq_false_iff_not, beq_iff_eq, beq_eq_false_iff_ne, bne_iff_ne, bne_eq_false_iff_eq, Bool.not_eq_true', Bool.not_eq_false', ne_eq, Classical.not_not, Bool.not_true, Bool.not_false, beqL_iff, beqL_ff, List.cons.injEq, and_true] at h) | skip) | ((conv => whnf) <;> (first | exact True.intro | apply br_rec | apply And.intro | refine CutE.at (A := Nat) (nnF n m).toNat ?_ | apply EntP.k0 | apply EntP.k1 | apply EntP.k2 | apply EntP.k3 | apply EntP.k4 | apply EntP.k5 | apply EntP.k6 | apply DrawP.go | (apply AnyP.mk; kernel_rfl) | (refine AggP.go 2 rfl (by kernel_rfl) ?_) | (refine AggP.go 1 rfl (by kernel_rfl) ?_) | (refine AggP.go 3 rfl (by kernel_rfl) ?_) | (refine AggP.go 4 rfl (by kernel_rfl) ?_) | (refine AggP.go 5 rfl (by kernel_rfl) ?_) | (refine AggP.go 8 rfl (by kernel_rfl) ?_) | (refine AggP.go 11 rfl (by kernel_rfl) ?_) | apply CallP.own0 | apply CallP.own1 | apply CallP.own2 | apply CallP.own3 | apply CallP.nb | apply CutE.go0 | apply CutE.go7 | apply CutE.go6 | apply CutE.go5 | apply CutE.go4 | apply CutE.go3 | apply CutE.go2 | apply CutE.go1 | apply RoP.id | apply wrapS | (with_reducible exact lenNil) | apply Eq.refl)) | ((first | (with_reducible show rvEq _ _ _ _) | (with_reducible show svEq _ _ _ _) | (with_reducible show cellEq _ _ _ _) | (with_reducible show blkEq _ _ _)); conv => whnf))
      all_goals first
        | (exfalso; omega)
        | (show (((nnF n m).toNat : Nat) : Int) = nnF n m; omega)
        | (show (nnF n m).toNat ≤ m.toNat; omega)
        | (rw [hx]; done)
        | (rw [hx]; rfl)
        | (rw [hx]; show (fre s b m 0).length = _; rw [fre_len]; show _ = (bl s b m).reverse.length; rw [List.length_reverse, bl_len]; rfl)
        | (rw [hx]; show slG encI (fre s b m 0) _ _ = slG encI (bl s b m).reverse _ _; rw [show fre s b m 0 = (bl s b m).reverse from takes0 _])
        | trace_state
    intro N hN
    have hN : N ≤ m.toNat := hN
    have hsm : IntKind.i64.wrap (b + IntKind.i64.wrap (s * m)) = b + s * m := by rw [wrap_i64 (x := s * m) (by omega), wrap_i64 (by omega)]
    repeat' (first | (intro h; first | exact Bool.noConfusion h | (guard_hyp h : true = true; clear h) | (guard_hyp h : false = false; clear h) | (simp only [decide_eq_true_eq, decide_eq_false_iff_not, beq_iff_eq, beq_eq_false_iff_ne, bne_iff_ne, bne_eq_false_iff_eq, Bool.not_eq_true', Bool.not_eq_false', ne_eq, Classical.not_not, Bool.not_true, Bool.not_false, beqL_iff, beqL_ff, List.cons.injEq, and_true] at h) | skip) | ((conv => whnf) <;> (first | exact True.intro | apply br_rec | apply And.intro | apply EntP.k0 | apply EntP.k1 | apply EntP.k2 | apply EntP.k3 | apply EntP.k4 | apply EntP.k5 | apply EntP.k6 | apply DrawP.go | (apply AnyP.mk; kernel_rfl) | (refine AggP.go 2 rfl (by kernel_rfl) ?_) | (refine AggP.go 1 rfl (by kernel_rfl) ?_) | (refine AggP.go 3 rfl (by kernel_rfl) ?_) | (refine AggP.go 4 rfl (by kernel_rfl) ?_) | (refine AggP.go 5 rfl (by kernel_rfl) ?_) | (refine AggP.go 8 rfl (by kernel_rfl) ?_) | (refine AggP.go 11 rfl (by kernel_rfl) ?_) | apply CallP.own0 | apply CallP.own1 | apply CallP.own2 | apply CallP.own3 | apply CallP.nb | apply CutE.go0 | apply CutE.go7 | apply CutE.go6 | apply CutE.go5 | apply CutE.go4 | apply CutE.go3 | apply CutE.go2 | apply CutE.go1 | apply RoP.id | apply wrapS | (with_reducible exact lenNil) | apply Eq.refl)) | ((first | (with_reducible show rvEq _ _ _ _) | (with_reducible show svEq _ _ _ _) | (with_reducible show cellEq _ _ _ _) | (with_reducible show blkEq _ _ _)); conv => whnf))
    apply LoopP.up (G := Nat) (fun k => k ≤ N) [0, 1, 2, 3, 4, 11, 13, 73, 74] (fun k => [(13, .c (.osl 1)), (74, .i k)]) (fun k => [(0, .row 48 (plC (s, b, m, fre s b m k))), (1, .slc 3 1 k (slG encI ((bl s b m).take k)))]) 2 (fun k => N - k)
    apply And.intro
    · refine CutE.at 0 ⟨EntP.at (n := 2) [⟨false, 13, 0, 3, 1⟩] [0, 1] ?_, ?_⟩
      · repeat' (first | (intro h; first | exact Bool.noConfusion h | (guard_hyp h : true = true; clear h) | (guard_hyp h : false = false; clear h) | (simp only [decide_eq_true_eq, decide_eq_false_iff_not, beq_iff_eq, beq_eq_false_iff_ne, bne_iff_ne, bne_eq_false_iff_eq, Bool.not_eq_true', Bool.not_eq_false', ne_eq, Classical.not_not, Bool.not_true, Bool.not_false, beqL_iff, beqL_ff, List.cons.injEq, and_true] at h) | skip) | ((conv => whnf) <;> (first | exact True.intro | apply br_rec | apply And.intro | apply EntP.k0 | apply EntP.k1 | apply EntP.k2 | apply EntP.k3 | apply EntP.k4 | apply EntP.k5 | apply EntP.k6 | apply DrawP.go | (apply AnyP.mk; kernel_rfl) | (refine AggP.go 2 rfl (by kernel_rfl) ?_) | (refine AggP.go 1 rfl (by kernel_rfl) ?_) | (refine AggP.go 3 rfl (by kernel_rfl) ?_) | (refine AggP.go 4 rfl (by kernel_rfl) ?_) | (refine AggP.go 5 rfl (by kernel_rfl) ?_) | (refine AggP.go 8 rfl (by kernel_rfl) ?_) | (refine AggP.go 11 rfl (by kernel_rfl) ?_) | apply CallP.own0 | apply CallP.own1 | apply CallP.own2 | apply CallP.own3 | apply CallP.nb | apply CutE.go0 | apply CutE.go7 | apply CutE.go6 | apply CutE.go5 | apply CutE.go4 | apply CutE.go3 | apply CutE.go2 | apply CutE.go1 | apply RoP.id | apply wrapS | (with_reducible exact lenNil) | apply Eq.refl)) | ((first | (with_reducible show rvEq _ _ _ _) | (with_reducible show svEq _ _ _ _) | (with_reducible show cellEq _ _ _ _) | (with_reducible show blkEq _ _ _)); conv => whnf))
        all_goals first
          | (rename_i i hi t; exact absurd hi (Nat.not_lt_zero _))
          | omega
          | trace_state
      · exact Nat.zero_le _
    intro k hk
    have hk : k ≤ N := hk
    have hks : 0 ≤ (k : Int) * s ∧ (k : Int) * s ≤ 128 := by have := prod_le ⟨s1, s8⟩ (m := k) (by omega); rw [Int.mul_comm]; exact this
    have hkm : k < N → (k : Int) * s + s ≤ s * m := fun h => by
      have : ((k : Int) + 1) * s ≤ m * s := Int.mul_le_mul_of_nonneg_right (by omega) (by omega)
      rw [Int.add_mul, Int.one_mul, Int.mul_comm m] at this
      exact this
    have hat : IntKind.i64.wrap (b + (k : Int) * s + s) = b + (k : Int) * s + s := wrap_i64 (by omega)
    have e3 : k < N → takeP (s, b, m, fre s b m k) = ((s, b, m, fre s b m (k + 1)), b + (k : Int) * s, 0) := fun h => fre_take hz (by omega)
    have hSk : SmallP (s, b, m, fre s b m k) := by show (fre s b m k).length ≤ 1000000; rw [fre_len]; omega
    by_cases hkN : k < N
    · have e3 := e3 hkN
      have hkm := hkm hkN
      repeat' (first | (intro h; first | exact Bool.noConfusion h | (guard_hyp h : true = true; clear h) | (guard_hyp h : false = false; clear h) | (simp only [decide_eq_true_eq, decide_eq_false_iff_not, beq_iff_eq, beq_eq_false_iff_ne, bne_iff_ne, bne_eq_false_iff_eq, Bool.not_eq_true', Bool.not_eq_false', ne_eq, Classical.not_not, Bool.not_true, Bool.not_false, beqL_iff, beqL_ff, List.cons.injEq, and_true] at h) | skip) | ((conv => whnf) <;> (first | exact True.intro | apply br_rec | apply And.intro | refine CutE.at (A := Pl) (s, b, m, fre s b m k) ?_ | apply EntP.k0 | apply EntP.k1 | apply EntP.k2 | apply EntP.k3 | apply EntP.k4 | apply EntP.k5 | apply EntP.k6 | apply DrawP.go | (apply AnyP.mk; kernel_rfl) | (refine AggP.go 2 rfl (by kernel_rfl) ?_) | (refine AggP.go 1 rfl (by kernel_rfl) ?_) | (refine AggP.go 3 rfl (by kernel_rfl) ?_) | (refine AggP.go 4 rfl (by kernel_rfl) ?_) | (refine AggP.go 5 rfl (by kernel_rfl) ?_) | (refine AggP.go 8 rfl (by kernel_rfl) ?_) | (refine AggP.go 11 rfl (by kernel_rfl) ?_) | apply CallP.own0 | apply CallP.own1 | apply CallP.own2 | apply CallP.own3 | apply CallP.nb | apply CutE.go0 | apply CutE.go7 | apply CutE.go6 | apply CutE.go5 | apply CutE.go4 | apply CutE.go3 | apply CutE.go2 | apply CutE.go1 | apply RoP.id | apply wrapS | (with_reducible exact lenNil) | apply Eq.refl)) | ((first | (with_reducible show rvEq _ _ _ _) | (with_reducible show svEq _ _ _ _) | (with_reducible show cellEq _ _ _ _) | (with_reducible show blkEq _ _ _)); conv => whnf))
      all_goals try first
        | exact hSk
        | (exfalso; omega)
      rotate_right 1
      · apply LoopP.up (G := Nat × Unit) (fun j => j.1 ≤ k) [0, 1, 2, 3, 4, 11, 13, 14, 15, 73, 74, 100, 101, 102] (fun j => [(102, .i j.1)]) (fun _ => []) 3 (fun j => k - j.1)
        apply And.intro
        · refine CutE.at (0, ()) ?_
          repeat' (first | (intro h; first | exact Bool.noConfusion h | (guard_hyp h : true = true; clear h) | (guard_hyp h : false = false; clear h) | (simp only [decide_eq_true_eq, decide_eq_false_iff_not, beq_iff_eq, beq_eq_false_iff_ne, bne_iff_ne, bne_eq_false_iff_eq, Bool.not_eq_true', Bool.not_eq_false', ne_eq, Classical.not_not, Bool.not_true, Bool.not_false, beqL_iff, beqL_ff, List.cons.injEq, and_true] at h) | skip) | ((conv => whnf) <;> (first | exact True.intro | apply br_rec | apply And.intro | apply EntP.id 3 | apply EntP.k0 | apply EntP.k1 | apply EntP.k2 | apply EntP.k3 | apply EntP.k4 | apply EntP.k5 | apply EntP.k6 | apply DrawP.go | (apply AnyP.mk; kernel_rfl) | (refine AggP.go 2 rfl (by kernel_rfl) ?_) | (refine AggP.go 1 rfl (by kernel_rfl) ?_) | (refine AggP.go 3 rfl (by kernel_rfl) ?_) | (refine AggP.go 4 rfl (by kernel_rfl) ?_) | (refine AggP.go 5 rfl (by kernel_rfl) ?_) | (refine AggP.go 8 rfl (by kernel_rfl) ?_) | (refine AggP.go 11 rfl (by kernel_rfl) ?_) | apply CallP.own0 | apply CallP.own1 | apply CallP.own2 | apply CallP.own3 | apply CallP.nb | apply CutE.go0 | apply CutE.go7 | apply CutE.go6 | apply CutE.go5 | apply CutE.go4 | apply CutE.go3 | apply CutE.go2 | apply CutE.go1 | apply RoP.id | apply wrapS | (with_reducible exact lenNil) | apply Eq.refl)) | ((first | (with_reducible show rvEq _ _ _ _) | (with_reducible show svEq _ _ _ _) | (with_reducible show cellEq _ _ _ _) | (with_reducible show blkEq _ _ _)); conv => whnf))
          all_goals first
            | exact Nat.zero_le _
            | trace_state
        rintro ⟨j, _⟩ hj
        have hj : j ≤ k := hj
        have gj : j < k → ((bl s b m).take k).getD j default = b + (j : Int) * s := fun h => tk_get (by omega) h
        have hjs : 0 ≤ (j : Int) * s ∧ (j : Int) * s ≤ 128 := by have := prod_le ⟨s1, s8⟩ (m := j) (by omega); rw [Int.mul_comm]; exact this
        have hjk : j < k → (j : Int) * s + s ≤ k * s := fun h => by
          have : ((j : Int) + 1) * s ≤ k * s := Int.mul_le_mul_of_nonneg_right (by omega) (by omega)
          rw [Int.add_mul, Int.one_mul] at this
          exact this
        have hjt : IntKind.i64.wrap (b + (j : Int) * s + s) = b + (j : Int) * s + s := wrap_i64 (by omega)
        repeat' (first | (intro h; first | exact Bool.noConfusion h | (guard_hyp h : true = true; clear h) | (guard_hyp h : false = false; clear h) | (simp only [decide_eq_true_eq, decide_eq_false_iff_not, beq_iff_eq, beq_eq_false_iff_ne, bne_iff_ne, bne_eq_false_iff_eq, Bool.not_eq_true', Bool.not_eq_false', ne_eq, Classical.not_not, Bool.not_true, Bool.not_false, beqL_iff, beqL_ff, List.cons.injEq, and_true] at h) | skip) | ((conv => whnf) <;> (first | exact True.intro | apply br_rec | apply And.intro | refine CutE.at (A := Nat × Unit) (j + 1, ()) ?_ | refine CutE.at (A := Nat) (k + 1) ?_ | apply EntP.k0 | apply EntP.k1 | apply EntP.k2 | apply EntP.k3 | apply EntP.k4 | apply EntP.k5 | apply EntP.k6 | apply DrawP.go | (apply AnyP.mk; kernel_rfl) | (refine AggP.go 2 rfl (by kernel_rfl) ?_) | (refine AggP.go 1 rfl (by kernel_rfl) ?_) | (refine AggP.go 3 rfl (by kernel_rfl) ?_) | (refine AggP.go 4 rfl (by kernel_rfl) ?_) | (refine AggP.go 5 rfl (by kernel_rfl) ?_) | (refine AggP.go 8 rfl (by kernel_rfl) ?_) | (refine AggP.go 11 rfl (by kernel_rfl) ?_) | apply CallP.own0 | apply CallP.own1 | apply CallP.own2 | apply CallP.own3 | apply CallP.nb | apply CutE.go0 | apply CutE.go7 | apply CutE.go6 | apply CutE.go5 | apply CutE.go4 | apply CutE.go3 | apply CutE.go2 | apply CutE.go1 | apply RoP.id | apply wrapS | (with_reducible exact lenNil) | apply Eq.refl)) | ((first | (with_reducible show rvEq _ _ _ _) | (with_reducible show svEq _ _ _ _) | (with_reducible show cellEq _ _ _ _) | (with_reducible show blkEq _ _ _)); conv => whnf))
        all_goals try simp only [Int.toNat_natCast, e3] at *
        all_goals first
          | omega
          | rfl
          | (show (k + 1) * 8 ≤ _; omega)
          | (show k - (j + 1) < k - j; omega)
          | (show j + 1 ≤ k; omega)
          | (show N - (k + 1) < N - k; omega)
          | (show k + 1 ≤ N; omega)
          | (exfalso; have g := gj (by omega); have g2 := hjk (by omega); simp only [g, hjt] at *; omega)
          | exact slG_take1 (L := bl s b m) (by rw [bl_len]; omega) rfl (by assumption) (by assumption) (by rw [show (bl s b m).getD k default = b + (k : Int) * s from bl_get (by omega)]; rfl)
          | trace_state
      all_goals (simp only [e3, hat, hsm] at *)
      all_goals first
        | contradiction
        | (exfalso; omega)
        | trace_state
    · obtain rfl : k = N := by omega
      have e4 : heldP (s, b, m, fre s b m k) = ((bl s b m).take k, 0) := by rw [heldP_go (plR_takes (plR_new hz) k)]; exact congrArg (fun z => (z, (0 : Int))) (held_is s1 k _)
      have hlen := tk_len (s := s) (b := b) hN
      repeat' (first | (intro h; first | exact Bool.noConfusion h | (guard_hyp h : true = true; clear h) | (guard_hyp h : false = false; clear h) | (simp only [decide_eq_true_eq, decide_eq_false_iff_not, beq_iff_eq, beq_eq_false_iff_ne, bne_iff_ne, bne_eq_false_iff_eq, Bool.not_eq_true', Bool.not_eq_false', ne_eq, Classical.not_not, Bool.not_true, Bool.not_false, beqL_iff, beqL_ff, List.cons.injEq, and_true] at h) | skip) | ((conv => whnf) <;> (first | exact True.intro | apply br_rec | apply And.intro | refine CutE.at (A := Pl) (s, b, m, fre s b m k) ?_ | apply EntP.k0 | apply EntP.k1 | apply EntP.k2 | apply EntP.k3 | apply EntP.k4 | apply EntP.k5 | apply EntP.k6 | apply DrawP.go | (apply AnyP.mk; kernel_rfl) | (refine AggP.go 2 rfl (by kernel_rfl) ?_) | (refine AggP.go 1 rfl (by kernel_rfl) ?_) | (refine AggP.go 3 rfl (by kernel_rfl) ?_) | (refine AggP.go 4 rfl (by kernel_rfl) ?_) | (refine AggP.go 5 rfl (by kernel_rfl) ?_) | (refine AggP.go 8 rfl (by kernel_rfl) ?_) | (refine AggP.go 11 rfl (by kernel_rfl) ?_) | apply CallP.own0 | apply CallP.own1 | apply CallP.own2 | apply CallP.own3 | apply CallP.nb | apply CutE.go0 | apply CutE.go7 | apply CutE.go6 | apply CutE.go5 | apply CutE.go4 | apply CutE.go3 | apply CutE.go2 | apply CutE.go1 | apply RoP.id | apply wrapS | (with_reducible exact lenNil) | apply Eq.refl)) | ((first | (with_reducible show rvEq _ _ _ _) | (with_reducible show svEq _ _ _ _) | (with_reducible show cellEq _ _ _ _) | (with_reducible show blkEq _ _ _)); conv => whnf))
      all_goals try first
        | exact hSk
        | (exfalso; omega)
      rotate_right 1
      · apply LoopP.up (G := Nat × Bool) (fun j => j.1 ≤ k) [2, 3, 4, 11, 13, 19, 138, 139, 140] (fun j => [(140, .i j.1)]) (fun _ => []) 2 (fun j => k - j.1)
        apply And.intro
        · refine CutE.at (0, true) ?_
          repeat' (first | (intro h; first | exact Bool.noConfusion h | (guard_hyp h : true = true; clear h) | (guard_hyp h : false = false; clear h) | (simp only [decide_eq_true_eq, decide_eq_false_iff_not, beq_iff_eq, beq_eq_false_iff_ne, bne_iff_ne, bne_eq_false_iff_eq, Bool.not_eq_true', Bool.not_eq_false', ne_eq, Classical.not_not, Bool.not_true, Bool.not_false, beqL_iff, beqL_ff, List.cons.injEq, and_true] at h) | skip) | ((conv => whnf) <;> (first | exact True.intro | apply br_rec | apply And.intro | apply EntP.id 2 | apply EntP.k0 | apply EntP.k1 | apply EntP.k2 | apply EntP.k3 | apply EntP.k4 | apply EntP.k5 | apply EntP.k6 | apply DrawP.go | (apply AnyP.mk; kernel_rfl) | (refine AggP.go 2 rfl (by kernel_rfl) ?_) | (refine AggP.go 1 rfl (by kernel_rfl) ?_) | (refine AggP.go 3 rfl (by kernel_rfl) ?_) | (refine AggP.go 4 rfl (by kernel_rfl) ?_) | (refine AggP.go 5 rfl (by kernel_rfl) ?_) | (refine AggP.go 8 rfl (by kernel_rfl) ?_) | (refine AggP.go 11 rfl (by kernel_rfl) ?_) | apply CallP.own0 | apply CallP.own1 | apply CallP.own2 | apply CallP.own3 | apply CallP.nb | apply CutE.go0 | apply CutE.go7 | apply CutE.go6 | apply CutE.go5 | apply CutE.go4 | apply CutE.go3 | apply CutE.go2 | apply CutE.go1 | apply RoP.id | apply wrapS | (with_reducible exact lenNil) | apply Eq.refl)) | ((first | (with_reducible show rvEq _ _ _ _) | (with_reducible show svEq _ _ _ _) | (with_reducible show cellEq _ _ _ _) | (with_reducible show blkEq _ _ _)); conv => whnf))
          all_goals first
            | exact Nat.zero_le _
            | trace_state
        rintro ⟨j, _⟩ hj
        have hj : j ≤ k := hj
        have gj : j < k → ((bl s b m).take k).getD j default = b + (j : Int) * s := fun h => tk_get hN h
        have hc : j < k → ((bl s b m).take k).contains (b + (j : Int) * s) = true := fun h => tk_has hN h
        repeat' (first | (intro h; first | exact Bool.noConfusion h | (guard_hyp h : true = true; clear h) | (guard_hyp h : false = false; clear h) | (simp only [decide_eq_true_eq, decide_eq_false_iff_not, beq_iff_eq, beq_eq_false_iff_ne, bne_iff_ne, bne_eq_false_iff_eq, Bool.not_eq_true', Bool.not_eq_false', ne_eq, Classical.not_not, Bool.not_true, Bool.not_false, beqL_iff, beqL_ff, List.cons.injEq, and_true] at h) | skip) | ((conv => whnf) <;> (first | exact True.intro | apply br_rec | apply And.intro | refine CutE.at (A := Nat × Bool) (j + 1, true) ?_ | refine CutE.at (A := List Int × Int) ((bl s b m).take k, b + (j : Int) * s) ?_ | apply EntP.k0 | apply EntP.k1 | apply EntP.k2 | apply EntP.k3 | apply EntP.k4 | apply EntP.k5 | apply EntP.k6 | apply DrawP.go | (apply AnyP.mk; kernel_rfl) | (refine AggP.go 2 rfl (by kernel_rfl) ?_) | (refine AggP.go 1 rfl (by kernel_rfl) ?_) | (refine AggP.go 3 rfl (by kernel_rfl) ?_) | (refine AggP.go 4 rfl (by kernel_rfl) ?_) | (refine AggP.go 5 rfl (by kernel_rfl) ?_) | (refine AggP.go 8 rfl (by kernel_rfl) ?_) | (refine AggP.go 11 rfl (by kernel_rfl) ?_) | apply CallP.own0 | apply CallP.own1 | apply CallP.own2 | apply CallP.own3 | apply CallP.nb | apply CutE.go0 | apply CutE.go7 | apply CutE.go6 | apply CutE.go5 | apply CutE.go4 | apply CutE.go3 | apply CutE.go2 | apply CutE.go1 | apply RoP.id | apply wrapS | (with_reducible exact lenNil) | apply Eq.refl)) | ((first | (with_reducible show rvEq _ _ _ _) | (with_reducible show svEq _ _ _ _) | (with_reducible show cellEq _ _ _ _) | (with_reducible show blkEq _ _ _)); conv => whnf))
        rotate_right 1
        · apply LoopP.up (G := Nat × Nat) (fun i => i.1 ≤ k) [2, 3, 4, 11, 13, 149, 150] (fun i => [(150, .i i.1)]) (fun i => [(0, .row 48 (plC (s, b, m, gv s b m k t i.1)))]) 2 (fun i => k - i.1)
          apply And.intro
          · refine CutE.at (0, 0) ?_
            repeat' (first | (intro h; first | exact Bool.noConfusion h | (guard_hyp h : true = true; clear h) | (guard_hyp h : false = false; clear h) | (simp only [decide_eq_true_eq, decide_eq_false_iff_not, beq_iff_eq, beq_eq_false_iff_ne, bne_iff_ne, bne_eq_false_iff_eq, Bool.not_eq_true', Bool.not_eq_false', ne_eq, Classical.not_not, Bool.not_true, Bool.not_false, beqL_iff, beqL_ff, List.cons.injEq, and_true] at h) | skip) | ((conv => whnf) <;> (first | exact True.intro | apply br_rec | apply And.intro | apply EntP.id 2 | apply EntP.k0 | apply EntP.k1 | apply EntP.k2 | apply EntP.k3 | apply EntP.k4 | apply EntP.k5 | apply EntP.k6 | apply DrawP.go | (apply AnyP.mk; kernel_rfl) | (refine AggP.go 2 rfl (by kernel_rfl) ?_) | (refine AggP.go 1 rfl (by kernel_rfl) ?_) | (refine AggP.go 3 rfl (by kernel_rfl) ?_) | (refine AggP.go 4 rfl (by kernel_rfl) ?_) | (refine AggP.go 5 rfl (by kernel_rfl) ?_) | (refine AggP.go 8 rfl (by kernel_rfl) ?_) | (refine AggP.go 11 rfl (by kernel_rfl) ?_) | apply CallP.own0 | apply CallP.own1 | apply CallP.own2 | apply CallP.own3 | apply CallP.nb | apply CutE.go0 | apply CutE.go7 | apply CutE.go6 | apply CutE.go5 | apply CutE.go4 | apply CutE.go3 | apply CutE.go2 | apply CutE.go1 | apply RoP.id | apply wrapS | (with_reducible exact lenNil) | apply Eq.refl)) | ((first | (with_reducible show rvEq _ _ _ _) | (with_reducible show svEq _ _ _ _) | (with_reducible show cellEq _ _ _ _) | (with_reducible show blkEq _ _ _)); conv => whnf))
            all_goals first
              | exact Nat.zero_le _
              | rfl
              | trace_state
          rintro ⟨i, _⟩ hi
          have hi : i ≤ k := hi
          have ht := tmod16 t
          have hSi : SmallP (s, b, m, gv s b m k t i) := by show (gv s b m k t i).length ≤ 1000000; rw [gv_len]; omega
          have hS1 : (gv s b m k t i).length ≤ 100000 := by rw [gv_len]; omega
          have hS2 : (gv s b m k t (i + 1)).length ≤ 100000 := by rw [gv_len]; omega
          by_cases hik : i < k
          · have hp0 : (0 : Int) < (k : Int) := by omega
            have hw1 : IntKind.i64.wrap ((i : Int) + t.tmod 16) = (i : Int) + t.tmod 16 := wrap_i64 (by omega)
            have hw2 : IntKind.i64.wrap (((i : Int) + t.tmod 16).tmod k + k) = ((i : Int) + t.tmod 16).tmod k + k := by
              have h1 := Int.tmod_lt_of_pos ((i : Int) + t.tmod 16) hp0
              have h2 := Int.lt_tmod_of_pos ((i : Int) + t.tmod 16) hp0
              exact wrap_i64 (by omega)
            have hidx : (((i : Int) + t.tmod 16).tmod k + k).tmod k = idxT t k i := rfl
            have hid := idxT_ok t hp0 i
            have gx : ((bl s b m).take k).getD (idxT t k i).toNat default = b + idxT t k i * s := by
              have e0 : (((idxT t k i).toNat : Nat) : Int) = idxT t k i := by omega
              rw [tk_get (s := s) (b := b) hN (j := (idxT t k i).toNat) (by omega), e0]
            have e5 := gv_go hz hN t hik
            have e6 := gv_twice hz hN t hik
            repeat' (first | (intro h; first | exact Bool.noConfusion h | (guard_hyp h : true = true; clear h) | (guard_hyp h : false = false; clear h) | (simp only [decide_eq_true_eq, decide_eq_false_iff_not, beq_iff_eq, beq_eq_false_iff_ne, bne_iff_ne, bne_eq_false_iff_eq, Bool.not_eq_true', Bool.not_eq_false', ne_eq, Classical.not_not, Bool.not_true, Bool.not_false, beqL_iff, beqL_ff, List.cons.injEq, and_true] at h) | skip) | ((conv => whnf) <;> (first | exact True.intro | apply br_rec | apply And.intro | apply CutE.goPl1 | refine CutE.at (A := Nat × Nat) (i + 1, 0) ?_ | refine CutE.at (A := Pl) (s, b, m, gv s b m k t i) ?_ | apply EntP.k0 | apply EntP.k1 | apply EntP.k2 | apply EntP.k3 | apply EntP.k4 | apply EntP.k5 | apply EntP.k6 | apply DrawP.go | (apply AnyP.mk; kernel_rfl) | (refine AggP.go 2 rfl (by kernel_rfl) ?_) | (refine AggP.go 1 rfl (by kernel_rfl) ?_) | (refine AggP.go 3 rfl (by kernel_rfl) ?_) | (refine AggP.go 4 rfl (by kernel_rfl) ?_) | (refine AggP.go 5 rfl (by kernel_rfl) ?_) | (refine AggP.go 8 rfl (by kernel_rfl) ?_) | (refine AggP.go 11 rfl (by kernel_rfl) ?_) | apply CallP.own0 | apply CallP.own1 | apply CallP.own2 | apply CallP.own3 | apply CallP.nb | apply CutE.go0 | apply CutE.go7 | apply CutE.go6 | apply CutE.go5 | apply CutE.go4 | apply CutE.go3 | apply CutE.go2 | apply CutE.go1 | apply RoP.id | apply wrapS | (with_reducible exact lenNil) | apply Eq.refl)) | ((first | (with_reducible show rvEq _ _ _ _) | (with_reducible show svEq _ _ _ _) | (with_reducible show cellEq _ _ _ _) | (with_reducible show blkEq _ _ _)); conv => whnf))
            all_goals try simp only [hw1, hw2, hidx, gx, e5, e6] at *
            all_goals first
              | omega
              | exact hid.1
              | exact hid.2
              | exact hS1
              | exact hS2
              | rfl
              | contradiction
              | (exfalso; omega)
              | (show k - (i + 1) < k - i; omega)
              | (show i + 1 ≤ k; omega)
              | trace_state
          · obtain rfl : i = k := by omega
            have e7 : heldP (s, b, m, gv s b m i t i) = ([], 0) := by rw [heldP_go (gv_right hz hN t i (Nat.le_refl _))]; exact congrArg (fun z => (z, (0 : Int))) (held_none hz hN t _)
            repeat' (first | (intro h; first | exact Bool.noConfusion h | (guard_hyp h : true = true; clear h) | (guard_hyp h : false = false; clear h) | (simp only [decide_eq_true_eq, decide_eq_false_iff_not, beq_iff_eq, beq_eq_false_iff_ne, bne_iff_ne, bne_eq_false_iff_eq, Bool.not_eq_true', Bool.not_eq_false', ne_eq, Classical.not_not, Bool.not_true, Bool.not_false, beqL_iff, beqL_ff, List.cons.injEq, and_true] at h) | skip) | ((conv => whnf) <;> (first | exact True.intro | apply br_rec | apply And.intro | apply CutE.goPl1 | refine CutE.at (A := Nat × Nat) (i + 1, 0) ?_ | refine CutE.at (A := Pl) (s, b, m, gv s b m i t i) ?_ | apply EntP.k0 | apply EntP.k1 | apply EntP.k2 | apply EntP.k3 | apply EntP.k4 | apply EntP.k5 | apply EntP.k6 | apply DrawP.go | (apply AnyP.mk; kernel_rfl) | (refine AggP.go 2 rfl (by kernel_rfl) ?_) | (refine AggP.go 1 rfl (by kernel_rfl) ?_) | (refine AggP.go 3 rfl (by kernel_rfl) ?_) | (refine AggP.go 4 rfl (by kernel_rfl) ?_) | (refine AggP.go 5 rfl (by kernel_rfl) ?_) | (refine AggP.go 8 rfl (by kernel_rfl) ?_) | (refine AggP.go 11 rfl (by kernel_rfl) ?_) | apply CallP.own0 | apply CallP.own1 | apply CallP.own2 | apply CallP.own3 | apply CallP.nb | apply CutE.go0 | apply CutE.go7 | apply CutE.go6 | apply CutE.go5 | apply CutE.go4 | apply CutE.go3 | apply CutE.go2 | apply CutE.go1 | apply RoP.id | apply wrapS | (with_reducible exact lenNil) | apply Eq.refl)) | ((first | (with_reducible show rvEq _ _ _ _) | (with_reducible show svEq _ _ _ _) | (with_reducible show cellEq _ _ _ _) | (with_reducible show blkEq _ _ _)); conv => whnf))
            all_goals try simp only [e7] at *
            all_goals first
              | omega
              | exact hSi
              | (exfalso; omega)
              | contradiction
              | (show true = (((gv s b m i t i).length : Int) == m); rw [gv_len, eq_comm, beq_iff_eq]; omega)
              | trace_state
        all_goals try simp only [Int.toNat_natCast, e4, hlen] at *
        all_goals first
          | omega
          | rfl
          | exact (gj (by omega)).symm
          | (show ((bl s b m).take k).length ≤ 1000000; rw [tk_len hN]; omega)
          | (show k - (j + 1) < k - j; omega)
          | (show j + 1 ≤ k; omega)
          | (exfalso; have g := hc (by omega); exact Bool.noConfusion (g.symm.trans (show ((bl s b m).take k).contains (b + (j : Int) * s) = false by assumption)))
          | trace_state
      all_goals (simp only [e4, hlen] at *)
      all_goals first
        | contradiction
        | (exfalso; omega)
        | trace_state
  all_goals (simp only [hx] at *)
  all_goals first
    | contradiction
    | (exfalso; omega)
    | trace_state
end Go.Eng
