/- FrameNests, walked. -/
import Derived.Test.YtgjdbpleoegejaaFrH
set_option linter.unusedVariables false
set_option linter.unusedSimpArgs false
namespace Go.Eng
open Go Go.Proofs

def remN (e : Int) : Int := (IntKind.i64.wrap (e.tmod 1000 + 1000)).tmod 1000
theorem remN_ok (e : Int) : 0 ≤ remN e ∧ remN e ≤ 999 := by
  unfold remN
  have h1 := Int.tmod_lt_of_pos e (show (0 : Int) < 1000 by omega)
  have h2 := Int.lt_tmod_of_pos e (show (0 : Int) < 1000 by omega)
  rw [wrap_i64 (x := e.tmod 1000 + 1000) ⟨by omega, by omega⟩]
  have h3 : 0 ≤ (e.tmod 1000 + 1000).tmod 1000 := Int.tmod_nonneg _ (by omega)
  have h4 := Int.tmod_lt_of_pos (e.tmod 1000 + 1000) (show (0 : Int) < 1000 by omega)
  omega
/-- The thread behind so many calls. -/
def nestT (t : Th) (ps : List Int) : Nat → Th
  | 0 => t
  | k + 1 => (callF (nestT t ps k) (remN (ps.getD k default))).1
/-- Where it was at each. -/
def fromT (t : Th) (ps : List Int) (k : Nat) : List Int := (List.range k).map fun j => (nestT t ps j).pc
theorem fromT_len (t : Th) (ps : List Int) (k : Nat) : (fromT t ps k).length = k := by simp [fromT]
theorem fromT_snoc (t : Th) (ps : List Int) (k : Nat) : fromT t ps (k + 1) = fromT t ps k ++ [(nestT t ps k).pc] := by simp [fromT, List.range_succ]
theorem fromT_at {t : Th} {ps : List Int} {k j : Nat} (h : j < k) : (fromT t ps k).getD j default = (nestT t ps j).pc := by
  simp [fromT, List.getD_eq_getElem?_getD, List.getElem?_map, List.getElem?_range h]
/-- Behind k calls of at most six. -/
structure NestI (t : Th) (ps : List Int) (k : Nat) : Prop where
  r : thR (nestT t ps k) = true
  pc : (nestT t ps k).pc ≤ 999 ∧ 0 ≤ (nestT t ps k).pc
  fs : (nestT t ps k).fs.length = k
theorem NestI.start {t : Th} {ps : List Int} (h : thR t = true) (h2 : t.fs.length = 0) (h3 : t.pc < 1000) : NestI t ps 0 := ⟨h, ⟨by show t.pc ≤ 999; omega, (placeF_iff.1 (thR_iff.1 h).1).1⟩, h2⟩
theorem NestI.can {t : Th} {ps : List Int} {k : Nat} (h : NestI t ps k) : thR (nestT t ps k) = true ∧ ¬ (nestT t ps k).pc = 1000 ∧ placeF (remN (ps.getD k default)) = true :=
  ⟨h.r, by have := h.pc; omega, placeF_iff.2 (by have := remN_ok (ps.getD k default); omega)⟩
theorem NestI.go {t : Th} {ps : List Int} {k : Nat} (h : NestI t ps k) (hk : k < 6) : callF (nestT t ps k) (remN (ps.getD k default)) = (nestT t ps (k + 1), 0) ∧ (nestT t ps (k + 1)).pc = remN (ps.getD k default) ∧ NestI t ps (k + 1) := by
  have e := callF_go h.can (by rw [h.fs]; omega)
  have e1 : nestT t ps (k + 1) = (callF (nestT t ps k) (remN (ps.getD k default))).1 := rfl
  have hr := remN_ok (ps.getD k default)
  rw [e] at e1
  obtain ⟨a, b, c, d, f, g⟩ := thR_iff.1 h.r
  have hp := h.pc
  refine ⟨by rw [e, e1], by rw [e1], ?_, ?_, ?_⟩
  · rw [e1]
    refine thR_iff.2 ⟨h.can.2.2, ?_, c, ?_, f, g⟩
    · show ((nestT t ps k).fs ++ _).length ≤ 6
      rw [List.length_append, h.fs]; simp only [List.length_cons, List.length_nil]; omega
    · show ((nestT t ps k).fs ++ _).any badFr = false
      rw [List.any_append, d]
      simp only [List.any_cons, List.any_nil, Bool.or_false, Bool.false_or]
      exact badFr_f (by show ¬ ((nestT t ps k).pc + 1 < 0 ∨ 1000 < (nestT t ps k).pc + 1); omega)
  · rw [e1]; exact ⟨by show remN _ ≤ 999; omega, by show 0 ≤ remN _; omega⟩
  · rw [e1]
    show ((nestT t ps k).fs ++ _).length = k + 1
    rw [List.length_append, h.fs]; rfl
theorem NestI.full {t : Th} {ps : List Int} (h : NestI t ps 6) : callF (nestT t ps 6) (remN (ps.getD 6 default)) = (th0, 13) := callF_deep h.can h.fs
def pcT (t : Th) (e : Int) : Th := ⟨e, t.r0, t.r1, t.r2, t.r3, t.r4, t.r5, t.r6, t.r7, t.fs, t.st, t.fa, t.lf⟩
theorem NestI.back {t : Th} {ps : List Int} {j : Nat} (h : NestI t ps j) (hj : j < 6) {e : Int} (he : 0 ≤ e ∧ e ≤ 1000) : backF (pcT (nestT t ps (j + 1)) e) = (pcT (nestT t ps j) ((nestT t ps j).pc + 1), 0) := by
  have e0 := callF_go h.can (by rw [h.fs]; omega)
  have e1 : nestT t ps (j + 1) = (callF (nestT t ps j) (remN (ps.getD j default))).1 := rfl
  rw [e0] at e1
  rw [e1]
  exact back_call h.can (by rw [h.fs]; omega) he
theorem NestI.none {t : Th} {ps : List Int} (h : NestI t ps 0) {e : Int} (he : 0 ≤ e ∧ e ≤ 1000) : backF (pcT (nestT t ps 0) e) = (th0, 8) := by
  obtain ⟨a, b, c, d, f, g⟩ := thR_iff.1 h.r
  exact backF_none (thR_iff.2 ⟨placeF_iff.2 he, b, c, d, f, g⟩) h.fs
theorem nestT_sm {t : Th} {ps : List Int} (h : t.lf.length ≤ 10) : ∀ k, (nestT t ps k).lf.length ≤ 10
  | 0 => h
  | k + 1 => by
    show (callF _ _).1.lf.length ≤ 10
    unfold callF
    split
    · split
      · exact Nat.zero_le _
      · exact nestT_sm h k
    · exact Nat.zero_le _

def sFNests : FSpec := spec (Th × List Int) (fun (t, ps) => [.agg (thC t), .c (intsS ps)]) (fun _ => True) fun _ => .b true
set_option maxHeartbeats 8000000 in
set_option maxRecDepth 100000 in
theorem fnests_ok : Meets Try.prog 5 sFNests := by
  refine meets_plain F7_ok rfl [2] (fn := Try.f5) rfl rfl rfl (by decide) fun ⟨⟨pc, r0, r1, r2, r3, r4, r5, r6, r7, fs, st, fa, lf⟩, ps⟩ _ => ?_
  have hw : (fs.take 8).length ≤ 8 := List.length_take_le _ _
  have hg : (lf.take 10).length ≤ 10 := List.length_take_le _ _
  have hq : (ps.take 9).length ≤ 9 := List.length_take_le _ _
  repeat' (first | (intro h; first | exact Bool.noConfusion h | (guard_hyp h : true = true; clear h) | (guard_hyp h : false = false; clear h) | (simp only [decide_eq_true_eq, decide_eq_false_iff_not, beq_iff_eq, beq_eq_false_iff_ne, bne_iff_ne, bne_eq_false_iff_eq, Bool.not_eq_true', Bool.not_eq_false', ne_eq, Classical.not_not, Bool.not_true, Bool.not_false, beqL_iff, beqL_ff, List.cons.injEq, and_true] at h) | skip) | ((conv => whnf) <;> (first | exact True.intro | apply br_rec | apply And.intro | apply EntP.k0 | apply EntP.k1 | apply EntP.k2 | apply EntP.k3 | apply EntP.k4 | apply EntP.k5 | apply EntP.k6 | apply DrawP.go | (apply AnyP.mk; kernel_rfl) | (refine AggP.go 2 rfl (by kernel_rfl) ?_) | (refine AggP.go 1 rfl (by kernel_rfl) ?_) | (refine AggP.go 3 rfl (by kernel_rfl) ?_) | (refine AggP.go 4 rfl (by kernel_rfl) ?_) | (refine AggP.go 5 rfl (by kernel_rfl) ?_) | (refine AggP.go 8 rfl (by kernel_rfl) ?_) | (refine AggP.go 11 rfl (by kernel_rfl) ?_) | apply CallP.own0 | apply CallP.own1 | apply CallP.own2 | apply CallP.own3 | apply CallP.nb | apply CutE.go0 | apply CutE.go7 | apply CutE.go6 | apply CutE.go5 | apply CutE.go4 | apply CutE.go3 | apply CutE.go2 | apply CutE.go1 | apply RoP.id | apply wrapS | (with_reducible exact lenNil) | apply Eq.refl)) | ((first | (with_reducible show rvEq _ _ _ _) | (with_reducible show svEq _ _ _ _) | (with_reducible show cellEq _ _ _ _) | (with_reducible show blkEq _ _ _)); conv => whnf))
  apply CutP.up (G := Unit) (fun _ => True) [1, 2] (fun _ => [(1, .s (.c (intsS (ps.take 9))))]) (fun _ => [(0, .row 27 (thC ⟨pc, r0, r1, r2, r3, r4, r5, r6, r7, fs.take 8, st, fa, lf.take 10⟩))]) 1
  apply And.intro
  · repeat' (first | (intro h; first | exact Bool.noConfusion h | (guard_hyp h : true = true; clear h) | (guard_hyp h : false = false; clear h) | (simp only [decide_eq_true_eq, decide_eq_false_iff_not, beq_iff_eq, beq_eq_false_iff_ne, bne_iff_ne, bne_eq_false_iff_eq, Bool.not_eq_true', Bool.not_eq_false', ne_eq, Classical.not_not, Bool.not_true, Bool.not_false, beqL_iff, beqL_ff, List.cons.injEq, and_true] at h) | skip) | ((conv => whnf) <;> (first | exact True.intro | apply br_rec | apply And.intro | apply EntP.k0 | apply EntP.k1 | apply EntP.k2 | apply EntP.k3 | apply EntP.k4 | apply EntP.k5 | apply EntP.k6 | apply DrawP.go | (apply AnyP.mk; kernel_rfl) | (refine AggP.go 2 rfl (by kernel_rfl) ?_) | (refine AggP.go 1 rfl (by kernel_rfl) ?_) | (refine AggP.go 3 rfl (by kernel_rfl) ?_) | (refine AggP.go 4 rfl (by kernel_rfl) ?_) | (refine AggP.go 5 rfl (by kernel_rfl) ?_) | (refine AggP.go 8 rfl (by kernel_rfl) ?_) | (refine AggP.go 11 rfl (by kernel_rfl) ?_) | apply CallP.own0 | apply CallP.own1 | apply CallP.own2 | apply CallP.own3 | apply CallP.nb | apply CutE.go0 | apply CutE.go7 | apply CutE.go6 | apply CutE.go5 | apply CutE.go4 | apply CutE.go3 | apply CutE.go2 | apply CutE.go1 | apply RoP.id | apply wrapS | (with_reducible exact lenNil) | apply Eq.refl)) | ((first | (with_reducible show rvEq _ _ _ _) | (with_reducible show svEq _ _ _ _) | (with_reducible show cellEq _ _ _ _) | (with_reducible show blkEq _ _ _)); conv => whnf))
    all_goals first
      | omega
      | exact take_lo (m := 9)
      | exact take_hi (m := 9)
      | exact take_len (m := 9)
      | (apply take_cell (m := 9); assumption)
      | trace_state
  rintro ⟨⟩ _
  generalize fs.take 8 = fs at *
  generalize lf.take 10 = lf at *
  generalize ps.take 9 = ps at *
  have hS : SmallT ⟨pc, r0, r1, r2, r3, r4, r5, r6, r7, fs, st, fa, lf⟩ := ⟨by show fs.length ≤ 1000000; omega, by show lf.length ≤ 1000000; omega⟩
  repeat' (first | (intro h; first | exact Bool.noConfusion h | (guard_hyp h : true = true; clear h) | (guard_hyp h : false = false; clear h) | (simp only [decide_eq_true_eq, decide_eq_false_iff_not, beq_iff_eq, beq_eq_false_iff_ne, bne_iff_ne, bne_eq_false_iff_eq, Bool.not_eq_true', Bool.not_eq_false', ne_eq, Classical.not_not, Bool.not_true, Bool.not_false, beqL_iff, beqL_ff, List.cons.injEq, and_true] at h) | skip) | ((conv => whnf) <;> (first | exact True.intro | apply br_rec | apply And.intro | apply CutE.goTh | apply EntP.k0 | apply EntP.k1 | apply EntP.k2 | apply EntP.k3 | apply EntP.k4 | apply EntP.k5 | apply EntP.k6 | apply DrawP.go | (apply AnyP.mk; kernel_rfl) | (refine AggP.go 2 rfl (by kernel_rfl) ?_) | (refine AggP.go 1 rfl (by kernel_rfl) ?_) | (refine AggP.go 3 rfl (by kernel_rfl) ?_) | (refine AggP.go 4 rfl (by kernel_rfl) ?_) | (refine AggP.go 5 rfl (by kernel_rfl) ?_) | (refine AggP.go 8 rfl (by kernel_rfl) ?_) | (refine AggP.go 11 rfl (by kernel_rfl) ?_) | apply CallP.own0 | apply CallP.own1 | apply CallP.own2 | apply CallP.own3 | apply CallP.nb | apply CutE.go0 | apply CutE.go7 | apply CutE.go6 | apply CutE.go5 | apply CutE.go4 | apply CutE.go3 | apply CutE.go2 | apply CutE.go1 | apply RoP.id | apply wrapS | (with_reducible exact lenNil) | apply Eq.refl)) | ((first | (with_reducible show rvEq _ _ _ _) | (with_reducible show svEq _ _ _ _) | (with_reducible show cellEq _ _ _ _) | (with_reducible show blkEq _ _ _)); conv => whnf))
  all_goals try simp only at *
  all_goals try first
    | exact hS.1
    | exact hS.2
  have h0 : NestI ⟨pc, r0, r1, r2, r3, r4, r5, r6, r7, fs, st, fa, lf⟩ ps 0 := NestI.start (by assumption) (by show fs.length = 0; omega) (by show pc < 1000; omega)
  have hsm := nestT_sm (t := ⟨pc, r0, r1, r2, r3, r4, r5, r6, r7, fs, st, fa, lf⟩) (ps := ps) hg
  apply LoopP.up (G := Nat) (fun k => k ≤ ps.length ∧ k ≤ 6 ∧ Up (k + 1) fun i => NestI ⟨pc, r0, r1, r2, r3, r4, r5, r6, r7, fs, st, fa, lf⟩ ps i) [2, 5, 38, 39, 40] (fun k => [(40, .i k), (5, .s (.c (.osl 1)))]) (fun k => [(0, .row 27 (thC (nestT ⟨pc, r0, r1, r2, r3, r4, r5, r6, r7, fs, st, fa, lf⟩ ps k))), (1, .slc 3 1 k (slG encI (fromT ⟨pc, r0, r1, r2, r3, r4, r5, r6, r7, fs, st, fa, lf⟩ ps k)))]) 2 (fun k => ps.length - k)
  apply And.intro
  · refine CutE.at 0 ⟨EntP.at [⟨false, 5, 0, 3, 1⟩] [0, 1] ?_, ?_⟩
    all_goals repeat' (first | (intro h; first | exact Bool.noConfusion h | (guard_hyp h : true = true; clear h) | (guard_hyp h : false = false; clear h) | (simp only [decide_eq_true_eq, decide_eq_false_iff_not, beq_iff_eq, beq_eq_false_iff_ne, bne_iff_ne, bne_eq_false_iff_eq, Bool.not_eq_true', Bool.not_eq_false', ne_eq, Classical.not_not, Bool.not_true, Bool.not_false, beqL_iff, beqL_ff, List.cons.injEq, and_true] at h) | skip) | ((conv => whnf) <;> (first | exact True.intro | apply br_rec | apply And.intro | apply EntP.k0 | apply EntP.k1 | apply EntP.k2 | apply EntP.k3 | apply EntP.k4 | apply EntP.k5 | apply EntP.k6 | apply DrawP.go | (apply AnyP.mk; kernel_rfl) | (refine AggP.go 2 rfl (by kernel_rfl) ?_) | (refine AggP.go 1 rfl (by kernel_rfl) ?_) | (refine AggP.go 3 rfl (by kernel_rfl) ?_) | (refine AggP.go 4 rfl (by kernel_rfl) ?_) | (refine AggP.go 5 rfl (by kernel_rfl) ?_) | (refine AggP.go 8 rfl (by kernel_rfl) ?_) | (refine AggP.go 11 rfl (by kernel_rfl) ?_) | apply CallP.own0 | apply CallP.own1 | apply CallP.own2 | apply CallP.own3 | apply CallP.nb | apply CutE.go0 | apply CutE.go7 | apply CutE.go6 | apply CutE.go5 | apply CutE.go4 | apply CutE.go3 | apply CutE.go2 | apply CutE.go1 | apply RoP.id | apply wrapS | (with_reducible exact lenNil) | apply Eq.refl)) | ((first | (with_reducible show rvEq _ _ _ _) | (with_reducible show svEq _ _ _ _) | (with_reducible show cellEq _ _ _ _) | (with_reducible show blkEq _ _ _)); conv => whnf))
    all_goals first
      | exact Nat.zero_le _
      | omega
      | (rename_i i hi t; exact absurd hi (Nat.not_lt_zero _))
      | (refine ⟨fun i hi => ?_⟩
         have hi0 : i = 0 := by omega
         subst hi0
         exact h0)
      | trace_state
  · rintro k ⟨hk, hk6, hI⟩
    have hIk : NestI ⟨pc, r0, r1, r2, r3, r4, r5, r6, r7, fs, st, fa, lf⟩ ps k := hI.get k (by omega)
    repeat' (first | (intro h; first | exact Bool.noConfusion h | (guard_hyp h : true = true; clear h) | (guard_hyp h : false = false; clear h) | (simp only [decide_eq_true_eq, decide_eq_false_iff_not, beq_iff_eq, beq_eq_false_iff_ne, bne_iff_ne, bne_eq_false_iff_eq, Bool.not_eq_true', Bool.not_eq_false', ne_eq, Classical.not_not, Bool.not_true, Bool.not_false, beqL_iff, beqL_ff, List.cons.injEq, and_true] at h) | skip) | ((conv => whnf) <;> (first | exact True.intro | apply br_rec | apply And.intro | refine CutE.at (A := Nat) (k + 1) ?_ | refine CutE.at (nestT ⟨pc, r0, r1, r2, r3, r4, r5, r6, r7, fs, st, fa, lf⟩ ps k, remN (ps.getD k default)) ?_ | apply EntP.k0 | apply EntP.k1 | apply EntP.k2 | apply EntP.k3 | apply EntP.k4 | apply EntP.k5 | apply EntP.k6 | apply DrawP.go | (apply AnyP.mk; kernel_rfl) | (refine AggP.go 2 rfl (by kernel_rfl) ?_) | (refine AggP.go 1 rfl (by kernel_rfl) ?_) | (refine AggP.go 3 rfl (by kernel_rfl) ?_) | (refine AggP.go 4 rfl (by kernel_rfl) ?_) | (refine AggP.go 5 rfl (by kernel_rfl) ?_) | (refine AggP.go 8 rfl (by kernel_rfl) ?_) | (refine AggP.go 11 rfl (by kernel_rfl) ?_) | apply CallP.own0 | apply CallP.own1 | apply CallP.own2 | apply CallP.own3 | apply CallP.nb | apply CutE.go0 | apply CutE.go7 | apply CutE.go6 | apply CutE.go5 | apply CutE.go4 | apply CutE.go3 | apply CutE.go2 | apply CutE.go1 | apply RoP.id | apply wrapS | (with_reducible exact lenNil) | apply Eq.refl)) | ((first | (with_reducible show rvEq _ _ _ _) | (with_reducible show svEq _ _ _ _) | (with_reducible show cellEq _ _ _ _) | (with_reducible show blkEq _ _ _)); conv => whnf))
    all_goals try simp only [Int.toNat_natCast] at *
    all_goals try first
      | omega
      | (show (nestT _ _ k).fs.length ≤ _; rw [hIk.fs]; omega)
      | (show (nestT _ _ k).lf.length ≤ _; have := hsm k; omega)
      | (have hk7 : k = 6 := by omega
         subst hk7
         rw [hIk.full]; rfl)
      | (have hk7 : k = 6 := by omega
         subst hk7
         exfalso; rw [hIk.full] at h; exact h rfl)
      | (exfalso; have hgo := hIk.go (by omega); rw [hgo.1] at h; exact h rfl)
      | (exfalso; have hgo := hIk.go (by omega); rw [hgo.1] at h; exact h hgo.2.1)
      | (show (k + 1) * 8 ≤ _; omega)
      | (rw [fromT_snoc]; exact (slG_snoc (enc := encI) (k := 1) (n := k) (by rw [fromT_len]) rfl _ (by assumption) _ (by assumption)).symm)
      | (show ps.length - (k + 1) < ps.length - k; omega)
      | (show k + 1 ≤ ps.length; omega)
      | (have hgo := hIk.go (by omega)
         exact ⟨by omega, by omega, hI.succ hgo.2.2⟩)
      | (have hgo := hIk.go (by omega); exact hI.succ hgo.2.2)
    apply LoopP.up (G := Nat × Int) (fun s => s.1 ≤ k ∧ 0 ≤ s.2 ∧ s.2 ≤ 1000) [2, 5, 11] (fun s => [(11, .i ((s.1 : Int) - 1))]) (fun s => [(0, .row 27 (thC (pcT (nestT ⟨pc, r0, r1, r2, r3, r4, r5, r6, r7, fs, st, fa, lf⟩ ps s.1) s.2)))]) 2 (fun s => s.1)
    apply And.intro
    · refine CutE.at (k, (nestT ⟨pc, r0, r1, r2, r3, r4, r5, r6, r7, fs, st, fa, lf⟩ ps k).pc) ?_
      have hp := hIk.pc
      have hwk : IntKind.i64.wrap ((k : Int) - 1) = (k : Int) - 1 := wrap_i64 (by omega)
      repeat' (first | (intro h; first | exact Bool.noConfusion h | (guard_hyp h : true = true; clear h) | (guard_hyp h : false = false; clear h) | (simp only [decide_eq_true_eq, decide_eq_false_iff_not, beq_iff_eq, beq_eq_false_iff_ne, bne_iff_ne, bne_eq_false_iff_eq, Bool.not_eq_true', Bool.not_eq_false', ne_eq, Classical.not_not, Bool.not_true, Bool.not_false, beqL_iff, beqL_ff, List.cons.injEq, and_true] at h) | skip) | ((conv => whnf) <;> (first | exact True.intro | apply br_rec | apply And.intro | apply EntP.k0 | apply EntP.k1 | apply EntP.k2 | apply EntP.k3 | apply EntP.k4 | apply EntP.k5 | apply EntP.k6 | apply DrawP.go | (apply AnyP.mk; kernel_rfl) | (refine AggP.go 2 rfl (by kernel_rfl) ?_) | (refine AggP.go 1 rfl (by kernel_rfl) ?_) | (refine AggP.go 3 rfl (by kernel_rfl) ?_) | (refine AggP.go 4 rfl (by kernel_rfl) ?_) | (refine AggP.go 5 rfl (by kernel_rfl) ?_) | (refine AggP.go 8 rfl (by kernel_rfl) ?_) | (refine AggP.go 11 rfl (by kernel_rfl) ?_) | apply CallP.own0 | apply CallP.own1 | apply CallP.own2 | apply CallP.own3 | apply CallP.nb | apply CutE.go0 | apply CutE.go7 | apply CutE.go6 | apply CutE.go5 | apply CutE.go4 | apply CutE.go3 | apply CutE.go2 | apply CutE.go1 | apply RoP.id | apply wrapS | (with_reducible exact lenNil) | apply Eq.refl)) | ((first | (with_reducible show rvEq _ _ _ _) | (with_reducible show svEq _ _ _ _) | (with_reducible show cellEq _ _ _ _) | (with_reducible show blkEq _ _ _)); conv => whnf))
      all_goals first
        | exact hwk.symm
        | omega
        | exact ⟨Nat.le_refl _, by omega, by omega⟩
        | trace_state
    · rintro ⟨j, e⟩ ⟨hj, he1, he2⟩
      have hj : j ≤ k := hj
      have he : 0 ≤ e ∧ e ≤ 1000 := ⟨he1, he2⟩
      have hfl := fromT_len ⟨pc, r0, r1, r2, r3, r4, r5, r6, r7, fs, st, fa, lf⟩ ps k
      cases j with
      | zero =>
        have hn := h0.none he
        repeat' (first | (intro h; first | exact Bool.noConfusion h | (guard_hyp h : true = true; clear h) | (guard_hyp h : false = false; clear h) | (simp only [decide_eq_true_eq, decide_eq_false_iff_not, beq_iff_eq, beq_eq_false_iff_ne, bne_iff_ne, bne_eq_false_iff_eq, Bool.not_eq_true', Bool.not_eq_false', ne_eq, Classical.not_not, Bool.not_true, Bool.not_false, beqL_iff, beqL_ff, List.cons.injEq, and_true] at h) | skip) | ((conv => whnf) <;> (first | exact True.intro | apply br_rec | apply And.intro | refine CutE.at (pcT (nestT ⟨pc, r0, r1, r2, r3, r4, r5, r6, r7, fs, st, fa, lf⟩ ps 0) e) ?_ | apply EntP.k0 | apply EntP.k1 | apply EntP.k2 | apply EntP.k3 | apply EntP.k4 | apply EntP.k5 | apply EntP.k6 | apply DrawP.go | (apply AnyP.mk; kernel_rfl) | (refine AggP.go 2 rfl (by kernel_rfl) ?_) | (refine AggP.go 1 rfl (by kernel_rfl) ?_) | (refine AggP.go 3 rfl (by kernel_rfl) ?_) | (refine AggP.go 4 rfl (by kernel_rfl) ?_) | (refine AggP.go 5 rfl (by kernel_rfl) ?_) | (refine AggP.go 8 rfl (by kernel_rfl) ?_) | (refine AggP.go 11 rfl (by kernel_rfl) ?_) | apply CallP.own0 | apply CallP.own1 | apply CallP.own2 | apply CallP.own3 | apply CallP.nb | apply CutE.go0 | apply CutE.go7 | apply CutE.go6 | apply CutE.go5 | apply CutE.go4 | apply CutE.go3 | apply CutE.go2 | apply CutE.go1 | apply RoP.id | apply wrapS | (with_reducible exact lenNil) | apply Eq.refl)) | ((first | (with_reducible show rvEq _ _ _ _) | (with_reducible show svEq _ _ _ _) | (with_reducible show cellEq _ _ _ _) | (with_reducible show blkEq _ _ _)); conv => whnf))
        all_goals first
          | omega
          | (rw [hn]; rfl)
          | (show fs.length ≤ _; omega)
          | (show lf.length ≤ _; omega)
          | trace_state
      | succ j =>
        have hIj : NestI ⟨pc, r0, r1, r2, r3, r4, r5, r6, r7, fs, st, fa, lf⟩ ps j := hI.get j (by omega)
        have hb := hIj.back (by omega) he
        have hp := hIj.pc
        have hat := fromT_at (t := ⟨pc, r0, r1, r2, r3, r4, r5, r6, r7, fs, st, fa, lf⟩) (ps := ps) (k := k) (j := j) (by omega)
        have ej : (((j + 1 : Nat) : Int) - 1) = (j : Int) := by omega
        have hwp : IntKind.i64.wrap ((nestT ⟨pc, r0, r1, r2, r3, r4, r5, r6, r7, fs, st, fa, lf⟩ ps j).pc + 1) = (nestT ⟨pc, r0, r1, r2, r3, r4, r5, r6, r7, fs, st, fa, lf⟩ ps j).pc + 1 := wrap_i64 (by omega)
        have hf1 : (nestT ⟨pc, r0, r1, r2, r3, r4, r5, r6, r7, fs, st, fa, lf⟩ ps (j + 1)).fs.length = j + 1 := (hI.get (j + 1) (by omega)).fs
        have hl1 := hsm (j + 1)
        repeat' (first | (intro h; first | exact Bool.noConfusion h | (guard_hyp h : true = true; clear h) | (guard_hyp h : false = false; clear h) | (simp only [decide_eq_true_eq, decide_eq_false_iff_not, beq_iff_eq, beq_eq_false_iff_ne, bne_iff_ne, bne_eq_false_iff_eq, Bool.not_eq_true', Bool.not_eq_false', ne_eq, Classical.not_not, Bool.not_true, Bool.not_false, beqL_iff, beqL_ff, List.cons.injEq, and_true] at h) | skip) | ((conv => whnf) <;> (first | exact True.intro | apply br_rec | apply And.intro | refine CutE.at (pcT (nestT ⟨pc, r0, r1, r2, r3, r4, r5, r6, r7, fs, st, fa, lf⟩ ps (j + 1)) e) ?_ | refine CutE.at (A := Nat × Int) (j, (nestT ⟨pc, r0, r1, r2, r3, r4, r5, r6, r7, fs, st, fa, lf⟩ ps j).pc + 1) ?_ | apply EntP.k0 | apply EntP.k1 | apply EntP.k2 | apply EntP.k3 | apply EntP.k4 | apply EntP.k5 | apply EntP.k6 | apply DrawP.go | (apply AnyP.mk; kernel_rfl) | (refine AggP.go 2 rfl (by kernel_rfl) ?_) | (refine AggP.go 1 rfl (by kernel_rfl) ?_) | (refine AggP.go 3 rfl (by kernel_rfl) ?_) | (refine AggP.go 4 rfl (by kernel_rfl) ?_) | (refine AggP.go 5 rfl (by kernel_rfl) ?_) | (refine AggP.go 8 rfl (by kernel_rfl) ?_) | (refine AggP.go 11 rfl (by kernel_rfl) ?_) | apply CallP.own0 | apply CallP.own1 | apply CallP.own2 | apply CallP.own3 | apply CallP.nb | apply CutE.go0 | apply CutE.go7 | apply CutE.go6 | apply CutE.go5 | apply CutE.go4 | apply CutE.go3 | apply CutE.go2 | apply CutE.go1 | apply RoP.id | apply wrapS | (with_reducible exact lenNil) | apply Eq.refl)) | ((first | (with_reducible show rvEq _ _ _ _) | (with_reducible show svEq _ _ _ _) | (with_reducible show cellEq _ _ _ _) | (with_reducible show blkEq _ _ _)); conv => whnf))
        all_goals try simp only [ej, Int.toNat_natCast, hat, hwp] at *
        all_goals first
          | omega
          | (show (nestT ⟨pc, r0, r1, r2, r3, r4, r5, r6, r7, fs, st, fa, lf⟩ ps (j + 1)).fs.length ≤ _; rw [hf1]; omega)
          | (show (nestT ⟨pc, r0, r1, r2, r3, r4, r5, r6, r7, fs, st, fa, lf⟩ ps (j + 1)).lf.length ≤ _; omega)
          | (exfalso; rw [hb] at h; exact h rfl)
          | (exfalso; rw [hb] at *; exact absurd rfl (by assumption))
          | (rw [wrap_i64 (by omega)]; done)
          | (rw [hb]; done)
          | (rw [hb]; rfl)
          | exact ⟨by omega, by omega, by omega⟩
          | (show j < j + 1; omega)
          | (show j ≤ k; omega)
          | (show 0 ≤ (nestT ⟨pc, r0, r1, r2, r3, r4, r5, r6, r7, fs, st, fa, lf⟩ ps j).pc + 1; omega)
          | (show (nestT ⟨pc, r0, r1, r2, r3, r4, r5, r6, r7, fs, st, fa, lf⟩ ps j).pc + 1 ≤ 1000; omega)
          | trace_state
end Go.Eng
