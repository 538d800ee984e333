/- BufferDrains, walked. -/
import Derived.Test.YtpcimaemigchiaaBufN
set_option linter.unusedVariables false
set_option linter.unusedSimpArgs false
namespace Go.Eng
open Go Go.Proofs

theorem drainsI {ts : List Int} {b : List Put} {ws l : List Int} {k : Nat} {a : Int} (hI : FoldI ts b ws (k, l)) (h : (foldG ts ws b 0).2.2 = 0) (hk : k < b.length) :
    useF l ts (b.getD k default).1 = 0 ∧
    ((newestF (b.drop (k + 1)) a).2 = true → (loadF (l.set (b.getD k default).1.toNat (b.getD k default).2) ts a).2 = 0 ∧ loadF (foldG ts ws b 0).1.1 ts a = ((newestF (b.drop (k + 1)) a).1, 0)) ∧
    ((newestF (b.drop (k + 1)) a).2 = false → loadF (foldG ts ws b 0).1.1 ts a = loadF (l.set (b.getD k default).1.toNat (b.getD k default).2) ts a) := by
  have hu : useF l ts (b.getD k default).1 = 0 := by
    by_cases hu : useF l ts (b.getD k default).1 = 0
    · exact hu
    · rw [hI.stop hk hu] at h; exact absurd h hu
  have hI' := hI.step hk hu
  have hr : foldG ts ws b 0 = foldG ts (l.set (b.getD k default).1.toNat (b.getD k default).2) (b.drop (k + 1)) (k + 1) := hI'.run
  rw [hr] at h ⊢
  have hv := view (a := a) (b.drop (k + 1)) (l.set (b.getD k default).1.toNat (b.getD k default).2) (k + 1) hI'.hm h
  rw [loadF_use]
  exact ⟨hu, fun h => ⟨(hv.1 h).2, (hv.1 h).1⟩, fun h => (hv.2 h).2⟩

set_option maxHeartbeats 8000000 in
set_option maxRecDepth 100000 in
theorem drains_ok : Meets Try.prog 12 sView := by
  refine meets_plain B7_ok rfl [2] (fn := Try.f12) rfl rfl rfl (by decide) fun ⟨ws0, ts0, b0, a⟩ _ => ?_
  have hb : (b0.take 20).length ≤ 20 := List.length_take_le _ _
  repeat' (first | (intro h; first | exact Bool.noConfusion h | (guard_hyp h : true = true; clear h) | (guard_hyp h : false = false; clear h) | (simp only [decide_eq_true_eq, decide_eq_false_iff_not, beq_iff_eq, beq_eq_false_iff_ne, bne_iff_ne, bne_eq_false_iff_eq, Bool.not_eq_true', Bool.not_eq_false', ne_eq, Classical.not_not, Bool.not_true, Bool.not_false, beqL_iff, beqL_ff, List.cons.injEq, and_true] at h) | skip) | ((conv => whnf) <;> (first | exact True.intro | apply br_rec | apply And.intro | apply EntP.k0 | apply EntP.k1 | apply EntP.k2 | apply EntP.k3 | apply EntP.k4 | apply EntP.k5 | apply EntP.k6 | apply DrawP.go | (apply AnyP.mk; kernel_rfl) | (refine AggP.go 2 rfl (by kernel_rfl) ?_) | (refine AggP.go 1 rfl (by kernel_rfl) ?_) | (refine AggP.go 3 rfl (by kernel_rfl) ?_) | (refine AggP.go 4 rfl (by kernel_rfl) ?_) | (refine AggP.go 5 rfl (by kernel_rfl) ?_) | (refine AggP.go 8 rfl (by kernel_rfl) ?_) | (refine AggP.go 11 rfl (by kernel_rfl) ?_) | apply CallP.own0 | apply CallP.own1 | apply CallP.own2 | apply CallP.own3 | apply CallP.nb | apply CutE.go0 | apply CutE.go7 | apply CutE.go6 | apply CutE.go5 | apply CutE.go4 | apply CutE.go3 | apply CutE.go2 | apply CutE.go1 | apply RoP.id | apply wrapS | (with_reducible exact lenNil) | apply Eq.refl)) | ((first | (with_reducible show rvEq _ _ _ _) | (with_reducible show svEq _ _ _ _) | (with_reducible show cellEq _ _ _ _) | (with_reducible show blkEq _ _ _)); conv => whnf))
  apply CutP.up (G := Unit) (fun _ => True) [2, 3, 9] (fun _ => [(2, .s (.c (putsS (b0.take 20)))), (9, .s (.c (.ptr 0 0)))]) (fun _ => [(0, .row 40 (memC (ws0.take 170) (ts0.take 170)))]) 1
  apply And.intro
  · repeat' (first | (intro h; first | exact Bool.noConfusion h | (guard_hyp h : true = true; clear h) | (guard_hyp h : false = false; clear h) | (simp only [decide_eq_true_eq, decide_eq_false_iff_not, beq_iff_eq, beq_eq_false_iff_ne, bne_iff_ne, bne_eq_false_iff_eq, Bool.not_eq_true', Bool.not_eq_false', ne_eq, Classical.not_not, Bool.not_true, Bool.not_false, beqL_iff, beqL_ff, List.cons.injEq, and_true] at h) | skip) | ((conv => whnf) <;> (first | exact True.intro | apply br_rec | apply And.intro | apply EntP.k0 | apply EntP.k1 | apply EntP.k2 | apply EntP.k3 | apply EntP.k4 | apply EntP.k5 | apply EntP.k6 | apply DrawP.go | (apply AnyP.mk; kernel_rfl) | (refine AggP.go 2 rfl (by kernel_rfl) ?_) | (refine AggP.go 1 rfl (by kernel_rfl) ?_) | (refine AggP.go 3 rfl (by kernel_rfl) ?_) | (refine AggP.go 4 rfl (by kernel_rfl) ?_) | (refine AggP.go 5 rfl (by kernel_rfl) ?_) | (refine AggP.go 8 rfl (by kernel_rfl) ?_) | (refine AggP.go 11 rfl (by kernel_rfl) ?_) | apply CallP.own0 | apply CallP.own1 | apply CallP.own2 | apply CallP.own3 | apply CallP.nb | apply CutE.go0 | apply CutE.go7 | apply CutE.go6 | apply CutE.go5 | apply CutE.go4 | apply CutE.go3 | apply CutE.go2 | apply CutE.go1 | apply RoP.id | apply wrapS | (with_reducible exact lenNil) | apply Eq.refl)) | ((first | (with_reducible show rvEq _ _ _ _) | (with_reducible show svEq _ _ _ _) | (with_reducible show cellEq _ _ _ _) | (with_reducible show blkEq _ _ _)); conv => whnf))
    all_goals try simp only [Int.toNat_natCast, Int.toNat_zero, ge_iff_le, gt_iff_lt, Int.ofNat_le, Int.ofNat_lt, Int.ofNat_inj] at *
    all_goals first
      | omega
      | (dsimp only; omega)
      | assumption
      | exact Up.zero _
      | (show ((8 : Nat) : Int) * _ ≤ _; omega)
      | (show _ * (8 : Nat) ≤ _; omega)
      | (show _ * (16 : Nat) ≤ _; omega)
      | (show _ * (24 : Nat) ≤ _; omega)
      | exact take_lo (m := 20)
      | exact take_hi (m := 20)
      | exact take_len (m := 20)
      | (apply take_cell (m := 20); assumption)
      | trace_state
  rintro ⟨⟩ _
  have hw : (ws0.take 170).length ≤ 170 := List.length_take_le _ _
  have ht : (ts0.take 170).length ≤ 170 := List.length_take_le _ _
  generalize b0.take 20 = b at *
  generalize ws0.take 170 = ws at *
  generalize ts0.take 170 = ts at *
  have hfl := foldF_len ws ts b
  repeat' (first | (intro h; first | exact Bool.noConfusion h | (guard_hyp h : true = true; clear h) | (guard_hyp h : false = false; clear h) | (simp only [decide_eq_true_eq, decide_eq_false_iff_not, beq_iff_eq, beq_eq_false_iff_ne, bne_iff_ne, bne_eq_false_iff_eq, Bool.not_eq_true', Bool.not_eq_false', ne_eq, Classical.not_not, Bool.not_true, Bool.not_false, beqL_iff, beqL_ff, List.cons.injEq, and_true] at h) | skip) | ((conv => whnf) <;> (first | exact True.intro | apply br_rec | apply And.intro | apply EntP.k0 | apply EntP.k1 | apply EntP.k2 | apply EntP.k3 | apply EntP.k4 | apply EntP.k5 | apply EntP.k6 | apply DrawP.go | (apply AnyP.mk; kernel_rfl) | (refine AggP.go 2 rfl (by kernel_rfl) ?_) | (refine AggP.go 1 rfl (by kernel_rfl) ?_) | (refine AggP.go 3 rfl (by kernel_rfl) ?_) | (refine AggP.go 4 rfl (by kernel_rfl) ?_) | (refine AggP.go 5 rfl (by kernel_rfl) ?_) | (refine AggP.go 8 rfl (by kernel_rfl) ?_) | (refine AggP.go 11 rfl (by kernel_rfl) ?_) | apply CallP.own0 | apply CallP.own1 | apply CallP.own2 | apply CallP.own3 | apply CallP.nb | apply CutE.go0 | apply CutE.go7 | apply CutE.go6 | apply CutE.go5 | apply CutE.go4 | apply CutE.go3 | apply CutE.go2 | apply CutE.go1 | apply RoP.id | apply wrapS | (with_reducible exact lenNil) | apply Eq.refl)) | ((first | (with_reducible show rvEq _ _ _ _) | (with_reducible show svEq _ _ _ _) | (with_reducible show cellEq _ _ _ _) | (with_reducible show blkEq _ _ _)); conv => whnf))
  · show b.length ≤ 1000000; omega
  · rw [foldF_no (by assumption)]; rfl
  have hok : (foldF ws ts b).2.2 = 0 := by assumption
  obtain ⟨hm, hts⟩ := foldF_ok hok
  have hg := foldF_good (b := b) hm
  rw [hg] at hok hfl
  apply LoopP.up (G := Nat × List Int) (FoldI ts b ws) [2, 3, 9, 10, 13, 14, 55, 56] (fun (k, l) => [(2, .s (.c (putsS (b.drop k)))), (56, .i k)]) (fun (k, l) => [(0, .row 40 (memC l ts))]) 2 (fun s => b.length - s.1)
  apply And.intro
  · refine CutE.at (0, ws) ?_
    repeat' (first | (intro h; first | exact Bool.noConfusion h | (guard_hyp h : true = true; clear h) | (guard_hyp h : false = false; clear h) | (simp only [decide_eq_true_eq, decide_eq_false_iff_not, beq_iff_eq, beq_eq_false_iff_ne, bne_iff_ne, bne_eq_false_iff_eq, Bool.not_eq_true', Bool.not_eq_false', ne_eq, Classical.not_not, Bool.not_true, Bool.not_false, beqL_iff, beqL_ff, List.cons.injEq, and_true] at h) | skip) | ((conv => whnf) <;> (first | exact True.intro | apply br_rec | apply And.intro | apply EntP.k0 | apply EntP.k1 | apply EntP.k2 | apply EntP.k3 | apply EntP.k4 | apply EntP.k5 | apply EntP.k6 | apply DrawP.go | (apply AnyP.mk; kernel_rfl) | (refine AggP.go 2 rfl (by kernel_rfl) ?_) | (refine AggP.go 1 rfl (by kernel_rfl) ?_) | (refine AggP.go 3 rfl (by kernel_rfl) ?_) | (refine AggP.go 4 rfl (by kernel_rfl) ?_) | (refine AggP.go 5 rfl (by kernel_rfl) ?_) | (refine AggP.go 8 rfl (by kernel_rfl) ?_) | (refine AggP.go 11 rfl (by kernel_rfl) ?_) | apply CallP.own0 | apply CallP.own1 | apply CallP.own2 | apply CallP.own3 | apply CallP.nb | apply CutE.go0 | apply CutE.go7 | apply CutE.go6 | apply CutE.go5 | apply CutE.go4 | apply CutE.go3 | apply CutE.go2 | apply CutE.go1 | apply RoP.id | apply wrapS | (with_reducible exact lenNil) | apply Eq.refl)) | ((first | (with_reducible show rvEq _ _ _ _) | (with_reducible show svEq _ _ _ _) | (with_reducible show cellEq _ _ _ _) | (with_reducible show blkEq _ _ _)); conv => whnf))
    all_goals try simp only [Int.toNat_natCast, Int.toNat_zero, ge_iff_le, gt_iff_lt, Int.ofNat_le, Int.ofNat_lt, Int.ofNat_inj] at *
    all_goals first
      | omega
      | (dsimp only; omega)
      | assumption
      | exact Up.zero _
      | (show ((8 : Nat) : Int) * _ ≤ _; omega)
      | (show _ * (8 : Nat) ≤ _; omega)
      | (show _ * (16 : Nat) ≤ _; omega)
      | (show _ * (24 : Nat) ≤ _; omega)
      | exact FoldI.start hm
      | trace_state
  · rintro ⟨k, l⟩ hI
    have hk : k ≤ b.length := hI.hk
    have hl := hI.hl
    have hd : (b.drop k).length = b.length - k := by simp
    have hd1 : (b.drop k).drop 1 = b.drop (k + 1) := by rw [List.drop_drop]
    have hd2 : (b.drop (k + 1)).length = b.length - (k + 1) := by simp
    have hdg : (b.drop k).getD 0 default = b.getD k default := by simp [List.getD_eq_getElem?_getD]
    have hD := fun hk => drainsI (a := a) hI hok hk
    simp only at hl
    repeat' (first | (intro h; first | exact Bool.noConfusion h | (guard_hyp h : true = true; clear h) | (guard_hyp h : false = false; clear h) | (simp only [decide_eq_true_eq, decide_eq_false_iff_not, beq_iff_eq, beq_eq_false_iff_ne, bne_iff_ne, bne_eq_false_iff_eq, Bool.not_eq_true', Bool.not_eq_false', ne_eq, Classical.not_not, Bool.not_true, Bool.not_false, beqL_iff, beqL_ff, List.cons.injEq, and_true] at h) | skip) | ((conv => whnf) <;> (first | exact True.intro | apply br_rec | apply And.intro | (refine CutE.at (A := Nat × List Int) (k + 1, l.set (b.getD k default).1.toNat (b.getD k default).2) ?_) | apply EntP.k0 | apply EntP.k1 | apply EntP.k2 | apply EntP.k3 | apply EntP.k4 | apply EntP.k5 | apply EntP.k6 | apply DrawP.go | (apply AnyP.mk; kernel_rfl) | (refine AggP.go 2 rfl (by kernel_rfl) ?_) | (refine AggP.go 1 rfl (by kernel_rfl) ?_) | (refine AggP.go 3 rfl (by kernel_rfl) ?_) | (refine AggP.go 4 rfl (by kernel_rfl) ?_) | (refine AggP.go 5 rfl (by kernel_rfl) ?_) | (refine AggP.go 8 rfl (by kernel_rfl) ?_) | (refine AggP.go 11 rfl (by kernel_rfl) ?_) | apply CallP.own0 | apply CallP.own1 | apply CallP.own2 | apply CallP.own3 | apply CallP.nb | apply CutE.go0 | apply CutE.go7 | apply CutE.go6 | apply CutE.go5 | apply CutE.go4 | apply CutE.go3 | apply CutE.go2 | apply CutE.go1 | apply RoP.id | apply wrapS | (with_reducible exact lenNil) | apply Eq.refl)) | ((first | (with_reducible show rvEq _ _ _ _) | (with_reducible show svEq _ _ _ _) | (with_reducible show cellEq _ _ _ _) | (with_reducible show blkEq _ _ _)); conv => whnf))
    all_goals try simp only [storeF_why, hd1, hdg, Int.toNat_natCast, Int.toNat_zero, Int.ofNat_lt] at *
    all_goals (by_cases hkl : k < b.length)
    all_goals first
      | omega
      | (show (b.drop k).length ≤ 1000000; omega)
      | (show (b.drop (k + 1)).length ≤ 1000000; omega)
      | exact hI.step hkl (hD hkl).1
      | (obtain ⟨hu, h1, h2⟩ := hD hkl
         (simp only [storeF_go hu, hts, hg, hu] at *) <;> first
          | rfl
          | omega
          | exact hI.step hkl hu
          | exact absurd rfl (by assumption)
          | exact absurd True.intro (by assumption)
          | (rw [wrap_i64 (by omega)] at *; omega)
          | (by_cases hn : (newestF (b.drop (k + 1)) a).2 = true
             · have h1 := h1 hn
               simp_all
               done
             · have h2 := h2 (by simpa using hn)
               simp_all
               done))
      | (have hdn := hI.done hkl; (simp only [hdn, hg] at *) <;> first | omega | exact (sameF_self _ _).symm)
      | trace_state
end Go.Eng
