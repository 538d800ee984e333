/- Instructions that need no memory: the reference's Run; a sign of life. -/
import Derived.Test.YtgjdbpleoegejaaLoL
set_option linter.unusedVariables false
set_option linter.unusedSimpArgs false
namespace Go.Eng
open Go Go.Proofs

theorem loc_in (op : Int) : locF op = inF op 1 15 := rfl
theorem ap_is {t : Th} {s op a b c : Int} (h : readyF t s = 0) (hp : ¬ t.pc = 1000) (hl : locF op = true) (hm : mayI op a b c = true) : apF t s op a b c = applyF t s op a b c := by
  refine apF_E (fun h' => ?_) (by omega) (by rw [← loc_in, hl]; exact Bool.noConfusion) (by rw [hm]; exact Bool.noConfusion)
  rcases h' with h' | h'
  · omega
  · exact hp h'
theorem ap_no1 {t : Th} {s op a b c : Int} (hp : t.pc = 1000) : ¬ (apF t s op a b c).2 = 0 := by rw [apF_A (.inr hp)]; show ¬ (1 : Int) = 0; omega
theorem ap_no2 {t : Th} {s op a b c : Int} (h : locF op = false) : ¬ (apF t s op a b c).2 = 0 := by
  intro hh
  obtain ⟨_, _, h3, _⟩ := ap_split (t := t) (x := (apF t s op a b c).1) (Prod.ext rfl hh)
  rw [← loc_in, h] at h3; cases h3
theorem ap_no3 {t : Th} {s op a b c : Int} (h : mayI op a b c = false) : ¬ (apF t s op a b c).2 = 0 := by
  intro hh
  obtain ⟨_, _, _, h4, _⟩ := ap_split (t := t) (x := (apF t s op a b c).1) (Prod.ext rfl hh)
  rw [h] at h4; cases h4
theorem ap_no4 {t : Th} {s op a b c : Int} (h : ¬ (applyF t s op a b c).2 = 0) : ¬ (apF t s op a b c).2 = 0 := by
  intro hh
  obtain ⟨_, _, _, _, h5⟩ := ap_split (t := t) (x := (apF t s op a b c).1) (Prod.ext rfl hh)
  rw [h5] at h; exact h rfl
abbrev apR (s : Int) (code : List Ins) (t : Th) : Th × Int := applyF t s (insAt code t).1 (insAt code t).2.1 (insAt code t).2.2.1 (insAt code t).2.2.2
theorem RunI.goR {t0 : Th} {s : Int} {code : List Ins} {most : Int} {t : Th} {n : Nat} (h : RunI t0 s code most t n) (hn : (n : Int) < most) (h1 : t.pc < (code.length : Int)) (hp : t.pc < 1000)
    (hl : locF (insAt code t).1 = true) (hm : mayI (insAt code t).1 (insAt code t).2.1 (insAt code t).2.2.1 (insAt code t).2.2.2 = true) (h2 : (apR s code t).2 = 0) : RunI t0 s code most (apR s code t).1 (n + 1) := by
  have e : apAt s code t = apR s code t := ap_is h.r (by omega) hl hm
  rw [← e] at h2 ⊢
  exact h.go hn h1 h2
def sRRun : FSpec := spec (Th × Int × List Ins × Int) (fun (t, s, code, most) => [.agg (thC t), .i s, .c (codeS code), .i most]) (fun (t, s, code, most) => readyF t s = 0 ∧ 0 ≤ most ∧ most ≤ 1000 ∧ code.length ≤ 1000000)
  fun (t, s, code, most) => .tup [rTh (runW s code most.toNat t 0).1, .c (.i (runW s code most.toNat t 0).2)]
def L8 : List (Nat × FSpec) := [(23, sLoc), (24, sMayI), (26, sRApply)]
theorem L8_ok : GOK Try.prog (tab L8) := gok_cons loc_ok (gok_cons mayI_ok (gok_cons rapply_ok (gok_nil _)))
set_option maxHeartbeats 8000000 in
set_option maxRecDepth 100000 in
theorem rrun_ok : Meets Try.prog 28 sRRun := by
  refine meets_plain L8_ok rfl [] (fn := Try.f28) rfl rfl rfl (by decide) fun ⟨⟨pc, r0, r1, r2, r3, r4, r5, r6, r7, fs, st, fa, lf⟩, s, code, most⟩ hh => ?_
  have hR : readyF ⟨pc, r0, r1, r2, r3, r4, r5, r6, r7, fs, st, fa, lf⟩ s = 0 := hh.1
  have hm : 0 ≤ most ∧ most ≤ 1000 := ⟨hh.2.1, hh.2.2.1⟩
  have hc : code.length ≤ 1000000 := hh.2.2.2
  clear hh
  repeat' (first | (intro h; first | exact Bool.noConfusion h | (guard_hyp h : true = true; clear h) | (guard_hyp h : false = false; clear h) | (simp only [decide_eq_true_eq, decide_eq_false_iff_not, beq_iff_eq, beq_eq_false_iff_ne, bne_iff_ne, bne_eq_false_iff_eq, Bool.not_eq_true', Bool.not_eq_false', ne_eq, Classical.not_not, Bool.not_true, Bool.not_false, beqL_iff, beqL_ff, List.cons.injEq, and_true] at h) | skip) | ((conv => whnf) <;> (first | exact True.intro | apply br_rec | apply And.intro | apply EntP.k0 | apply EntP.k1 | apply EntP.k2 | apply EntP.k3 | apply EntP.k4 | apply EntP.k5 | apply EntP.k6 | apply DrawP.go | (apply AnyP.mk; kernel_rfl) | (refine AggP.go 2 rfl (by kernel_rfl) ?_) | (refine AggP.go 1 rfl (by kernel_rfl) ?_) | (refine AggP.go 3 rfl (by kernel_rfl) ?_) | (refine AggP.go 4 rfl (by kernel_rfl) ?_) | (refine AggP.go 5 rfl (by kernel_rfl) ?_) | (refine AggP.go 8 rfl (by kernel_rfl) ?_) | (refine AggP.go 11 rfl (by kernel_rfl) ?_) | apply CallP.own0 | apply CallP.own1 | apply CallP.own2 | apply CallP.own3 | apply CallP.nb | apply CutE.go0 | apply CutE.go7 | apply CutE.go6 | apply CutE.go5 | apply CutE.go4 | apply CutE.go3 | apply CutE.go2 | apply CutE.go1 | apply RoP.id | apply wrapS | (with_reducible exact lenNil) | apply Eq.refl)) | ((first | (with_reducible show rvEq _ _ _ _) | (with_reducible show svEq _ _ _ _) | (with_reducible show cellEq _ _ _ _) | (with_reducible show blkEq _ _ _)); conv => whnf))
  apply LoopP.up (G := Th × Nat) (fun g => RunI ⟨pc, r0, r1, r2, r3, r4, r5, r6, r7, fs, st, fa, lf⟩ s code most g.1 g.2) [1, 2, 3, 4, 8, 10] (fun g => [(10, .i g.2)]) (fun g => [(0, .row 27 (thC g.1))]) 2 (fun g => most.toNat - g.2)
  apply And.intro
  · refine CutE.at (⟨pc, r0, r1, r2, r3, r4, r5, r6, r7, fs, st, fa, lf⟩, 0) ?_
    repeat' (first | (intro h; first | exact Bool.noConfusion h | (guard_hyp h : true = true; clear h) | (guard_hyp h : false = false; clear h) | (simp only [decide_eq_true_eq, decide_eq_false_iff_not, beq_iff_eq, beq_eq_false_iff_ne, bne_iff_ne, bne_eq_false_iff_eq, Bool.not_eq_true', Bool.not_eq_false', ne_eq, Classical.not_not, Bool.not_true, Bool.not_false, beqL_iff, beqL_ff, List.cons.injEq, and_true] at h) | skip) | ((conv => whnf) <;> (first | exact True.intro | apply br_rec | apply And.intro | apply EntP.k0 | apply EntP.k1 | apply EntP.k2 | apply EntP.k3 | apply EntP.k4 | apply EntP.k5 | apply EntP.k6 | apply DrawP.go | (apply AnyP.mk; kernel_rfl) | (refine AggP.go 2 rfl (by kernel_rfl) ?_) | (refine AggP.go 1 rfl (by kernel_rfl) ?_) | (refine AggP.go 3 rfl (by kernel_rfl) ?_) | (refine AggP.go 4 rfl (by kernel_rfl) ?_) | (refine AggP.go 5 rfl (by kernel_rfl) ?_) | (refine AggP.go 8 rfl (by kernel_rfl) ?_) | (refine AggP.go 11 rfl (by kernel_rfl) ?_) | apply CallP.own0 | apply CallP.own1 | apply CallP.own2 | apply CallP.own3 | apply CallP.nb | apply CutE.go0 | apply CutE.go7 | apply CutE.go6 | apply CutE.go5 | apply CutE.go4 | apply CutE.go3 | apply CutE.go2 | apply CutE.go1 | apply RoP.id | apply wrapS | (with_reducible exact lenNil) | apply Eq.refl)) | ((first | (with_reducible show rvEq _ _ _ _) | (with_reducible show svEq _ _ _ _) | (with_reducible show cellEq _ _ _ _) | (with_reducible show blkEq _ _ _)); conv => whnf))
    all_goals first | exact RunI.start hR hm.1 | rfl | trace_state
  rintro ⟨⟨pc', r0', r1', r2', r3', r4', r5', r6', r7', fs', st', fa', lf'⟩, n⟩ hi
  have hi : RunI ⟨pc, r0, r1, r2, r3, r4, r5, r6, r7, fs, st, fa, lf⟩ s code most ⟨pc', r0', r1', r2', r3', r4', r5', r6', r7', fs', st', fa', lf'⟩ n := hi
  have hr := readyF_iff.1 hi.r
  have hp := hi.pc
  have hp : 0 ≤ pc' ∧ pc' ≤ 1000 := hp
  have hle : (n : Int) ≤ most := hi.le
  repeat' (first | (intro h; first | exact Bool.noConfusion h | (guard_hyp h : true = true; clear h) | (guard_hyp h : false = false; clear h) | (simp only [decide_eq_true_eq, decide_eq_false_iff_not, beq_iff_eq, beq_eq_false_iff_ne, bne_iff_ne, bne_eq_false_iff_eq, Bool.not_eq_true', Bool.not_eq_false', ne_eq, Classical.not_not, Bool.not_true, Bool.not_false, beqL_iff, beqL_ff, List.cons.injEq, and_true] at h) | skip) | ((conv => whnf) <;> (first | exact True.intro | apply br_rec | apply And.intro | refine CutE.at (A := Th × Nat) ((apR s code ⟨pc', r0', r1', r2', r3', r4', r5', r6', r7', fs', st', fa', lf'⟩).1, n + 1) ?_ | apply CutE.goAp | apply EntP.k0 | apply EntP.k1 | apply EntP.k2 | apply EntP.k3 | apply EntP.k4 | apply EntP.k5 | apply EntP.k6 | apply DrawP.go | (apply AnyP.mk; kernel_rfl) | (refine AggP.go 2 rfl (by kernel_rfl) ?_) | (refine AggP.go 1 rfl (by kernel_rfl) ?_) | (refine AggP.go 3 rfl (by kernel_rfl) ?_) | (refine AggP.go 4 rfl (by kernel_rfl) ?_) | (refine AggP.go 5 rfl (by kernel_rfl) ?_) | (refine AggP.go 8 rfl (by kernel_rfl) ?_) | (refine AggP.go 11 rfl (by kernel_rfl) ?_) | apply CallP.own0 | apply CallP.own1 | apply CallP.own2 | apply CallP.own3 | apply CallP.nb | apply CutE.go0 | apply CutE.go7 | apply CutE.go6 | apply CutE.go5 | apply CutE.go4 | apply CutE.go3 | apply CutE.go2 | apply CutE.go1 | apply RoP.id | apply wrapS | (with_reducible exact lenNil) | apply Eq.refl)) | ((first | (with_reducible show rvEq _ _ _ _) | (with_reducible show svEq _ _ _ _) | (with_reducible show cellEq _ _ _ _) | (with_reducible show blkEq _ _ _)); conv => whnf))
  all_goals try simp only at *
  all_goals first
    | exact hr.1
    | assumption
    | omega
    | (show ¬ pc' = 1000; omega)
    | (show most.toNat - (n + 1) < most.toNat - n; omega)
    | exact hi.goR (by omega) (by assumption) (by assumption) (by assumption) (by assumption) (by assumption)
    | (rw [hi.stop (.inl (by omega))]; done)
    | (rw [hi.stop (.inr (.inl (by assumption)))]; done)
    | (rw [hi.stop (.inr (.inr (ap_no1 (show pc' = 1000 by omega))))]; done)
    | (rw [hi.stop (.inr (.inr (ap_no2 (by assumption))))]; done)
    | (rw [hi.stop (.inr (.inr (ap_no3 (by assumption))))]; done)
    | (rw [hi.stop (.inr (.inr (ap_no4 (by assumption))))]; done)
    | trace_state
def sFew7 : FSpec := spec Th (fun t => [.agg (thC t)]) (fun _ => True) fun t => .s (rTh (few6 t))
set_option maxHeartbeats 4000000 in
set_option maxRecDepth 100000 in
theorem few7_ok : Meets Try.prog 20 sFew7 := by
  refine meets_plain (gok_nil _) rfl [] (fn := Try.f20) rfl rfl rfl (by decide) fun ⟨pc, r0, r1, r2, r3, r4, r5, r6, r7, fs, st, fa, lf⟩ _ => ?_
  repeat' (first | (intro h; first | exact Bool.noConfusion h | (guard_hyp h : true = true; clear h) | (guard_hyp h : false = false; clear h) | (simp only [decide_eq_true_eq, decide_eq_false_iff_not, beq_iff_eq, beq_eq_false_iff_ne, bne_iff_ne, bne_eq_false_iff_eq, Bool.not_eq_true', Bool.not_eq_false', ne_eq, Classical.not_not, Bool.not_true, Bool.not_false, beqL_iff, beqL_ff, List.cons.injEq, and_true] at h) | skip) | ((conv => whnf) <;> (first | exact True.intro | apply br_rec | apply And.intro | apply EntP.k0 | apply EntP.k1 | apply EntP.k2 | apply EntP.k3 | apply EntP.k4 | apply EntP.k5 | apply EntP.k6 | apply DrawP.go | (apply AnyP.mk; kernel_rfl) | (refine AggP.go 2 rfl (by kernel_rfl) ?_) | (refine AggP.go 1 rfl (by kernel_rfl) ?_) | (refine AggP.go 3 rfl (by kernel_rfl) ?_) | (refine AggP.go 4 rfl (by kernel_rfl) ?_) | (refine AggP.go 5 rfl (by kernel_rfl) ?_) | (refine AggP.go 8 rfl (by kernel_rfl) ?_) | (refine AggP.go 11 rfl (by kernel_rfl) ?_) | apply CallP.own0 | apply CallP.own1 | apply CallP.own2 | apply CallP.own3 | apply CallP.nb | apply CutE.go0 | apply CutE.go7 | apply CutE.go6 | apply CutE.go5 | apply CutE.go4 | apply CutE.go3 | apply CutE.go2 | apply CutE.go1 | apply RoP.id | apply wrapS | (with_reducible exact lenNil) | apply Eq.refl)) | ((first | (with_reducible show rvEq _ _ _ _) | (with_reducible show svEq _ _ _ _) | (with_reducible show cellEq _ _ _ _) | (with_reducible show blkEq _ _ _)); conv => whnf))
  all_goals first
    | omega
    | exact take_lo (m := 8)
    | exact take_hi (m := 8)
    | exact take_len (m := 8)
    | exact take_lo (m := 10)
    | exact take_hi (m := 10)
    | exact take_len (m := 10)
    | (apply take_cell (m := 8); assumption)
    | (apply take_cell (m := 10); assumption)
    | trace_state
def sAlive7 : FSpec := spec Unit (fun _ => []) (fun _ => True) fun _ => .b true
set_option maxHeartbeats 4000000 in
set_option maxRecDepth 100000 in
theorem alive7_ok : Meets Try.prog 25 sAlive7 := by
  refine meets_plain L7_ok rfl [] (fn := Try.f25) rfl rfl rfl (by decide) fun _ _ => ?_
  have e : apF ⟨0, 1, 2, 0, 0, 0, 0, 0, 0, [], 0, 0, []⟩ 0 5 0 0 1 = (⟨1, 3, 2, 0, 0, 0, 0, 0, 0, [], 0, 0, []⟩, 0) := by decide
  repeat' (first | (intro h; first | exact Bool.noConfusion h | (guard_hyp h : true = true; clear h) | (guard_hyp h : false = false; clear h) | (simp only [decide_eq_true_eq, decide_eq_false_iff_not, beq_iff_eq, beq_eq_false_iff_ne, bne_iff_ne, bne_eq_false_iff_eq, Bool.not_eq_true', Bool.not_eq_false', ne_eq, Classical.not_not, Bool.not_true, Bool.not_false, beqL_iff, beqL_ff, List.cons.injEq, and_true] at h) | skip) | ((conv => whnf) <;> (first | exact True.intro | apply br_rec | apply And.intro | refine CutE.at ((⟨0, 1, 2, 0, 0, 0, 0, 0, 0, [], 0, 0, []⟩, 0, 5, 0, 0, 1) : Th × Int × Int × Int × Int × Int) ?_ | apply EntP.k0 | apply EntP.k1 | apply EntP.k2 | apply EntP.k3 | apply EntP.k4 | apply EntP.k5 | apply EntP.k6 | apply DrawP.go | (apply AnyP.mk; kernel_rfl) | (refine AggP.go 2 rfl (by kernel_rfl) ?_) | (refine AggP.go 1 rfl (by kernel_rfl) ?_) | (refine AggP.go 3 rfl (by kernel_rfl) ?_) | (refine AggP.go 4 rfl (by kernel_rfl) ?_) | (refine AggP.go 5 rfl (by kernel_rfl) ?_) | (refine AggP.go 8 rfl (by kernel_rfl) ?_) | (refine AggP.go 11 rfl (by kernel_rfl) ?_) | apply CallP.own0 | apply CallP.own1 | apply CallP.own2 | apply CallP.own3 | apply CallP.nb | apply CutE.go0 | apply CutE.go7 | apply CutE.go6 | apply CutE.go5 | apply CutE.go4 | apply CutE.go3 | apply CutE.go2 | apply CutE.go1 | apply RoP.id | apply wrapS | (with_reducible exact lenNil) | apply Eq.refl)) | ((first | (with_reducible show rvEq _ _ _ _) | (with_reducible show svEq _ _ _ _) | (with_reducible show cellEq _ _ _ _) | (with_reducible show blkEq _ _ _)); conv => whnf))
  all_goals try simp only [e] at *
  all_goals first | exact Nat.zero_le _ | rfl | omega | contradiction | (exfalso; omega) | trace_state
end Go.Eng
