/- phase.Run: its closures, the reference, and the loop. -/
import Derived.Test.YthhangpcedbhdaaEngC
import Derived.Test.YthhangpcedbhdaaPhase
set_option linter.unusedVariables false
set_option linter.unusedSimpArgs false
namespace Go.Eng
open Go Go.Proofs

def r3 (a b c : Int) : RV := .tup [.c (.i a), .c (.i b), .c (.i c)]
@[reducible] def sClo (res : Int → Int → RV) : FSpec := lentSpec 2 (Int × Int) (fun _ => [.c (.ptr 0 0), .c (.ptr 1 0)]) (fun (w, g) => [.row 3 [.i w], .row 3 [.i g]]) (fun _ => True) (fun (w, g) => res w g) (fun (w, g) => [.row 3 [.i w], .row 3 [.i g]])
@[reducible] def sRun1 : FSpec := sClo fun w g => r3 (enterF w g).1 g (enterF w g).2
@[reducible] def sRun2 : FSpec := sClo fun w g => r3 (leaveF w).1 g (leaveF w).2
@[reducible] def sRun3 : FSpec := sClo fun g w => r3 w (flipF g).1 (flipF g).2

set_option maxHeartbeats 4000000 in
set_option maxRecDepth 100000 in
theorem run1_ok : Meets Try.prog 44 sRun1 := by
  refine meets_lent 2 T2_ok rfl [] (fn := Try.f44) rfl rfl rfl (by decide) (fun _ => rfl) (fun _ => rfl) (by decide) fun (w, g) _ => ?_
  repeat' (first | (intro h; first | exact Bool.noConfusion h | (guard_hyp h : true = true; clear h) | (guard_hyp h : false = false; clear h) | (simp only [decide_eq_true_eq, decide_eq_false_iff_not, beq_iff_eq, beq_eq_false_iff_ne, bne_iff_ne, bne_eq_false_iff_eq, Bool.not_eq_true', Bool.not_eq_false', ne_eq, Classical.not_not, Bool.not_true, Bool.not_false] at h) | skip) | ((conv => whnf) <;> (first | exact True.intro | apply And.intro | apply EntP.go | apply DrawP.go | (apply AnyP.mk; kernel_rfl) | apply CallP.own1 | apply CallP.own2 | apply CallP.own3 | apply CallP.nb | apply CutE.go0 | apply CutE.go7 | apply CutE.go6 | apply CutE.go5 | apply CutE.go4 | apply CutE.go3 | apply CutE.go2 | apply CutE.go1 | apply wrapS | apply Eq.refl)) | ((first | (with_reducible show rvEq _ _ _ _) | (with_reducible show svEq _ _ _) | (with_reducible show cellEq _ _ _ _) | (with_reducible show blkEq _ _ _)); conv => whnf))
set_option maxHeartbeats 4000000 in
set_option maxRecDepth 100000 in
theorem run2_ok : Meets Try.prog 45 sRun2 := by
  refine meets_lent 2 T2_ok rfl [] (fn := Try.f45) rfl rfl rfl (by decide) (fun _ => rfl) (fun _ => rfl) (by decide) fun (w, g) _ => ?_
  repeat' (first | (intro h; first | exact Bool.noConfusion h | (guard_hyp h : true = true; clear h) | (guard_hyp h : false = false; clear h) | (simp only [decide_eq_true_eq, decide_eq_false_iff_not, beq_iff_eq, beq_eq_false_iff_ne, bne_iff_ne, bne_eq_false_iff_eq, Bool.not_eq_true', Bool.not_eq_false', ne_eq, Classical.not_not, Bool.not_true, Bool.not_false] at h) | skip) | ((conv => whnf) <;> (first | exact True.intro | apply And.intro | apply EntP.go | apply DrawP.go | (apply AnyP.mk; kernel_rfl) | apply CallP.own1 | apply CallP.own2 | apply CallP.own3 | apply CallP.nb | apply CutE.go0 | apply CutE.go7 | apply CutE.go6 | apply CutE.go5 | apply CutE.go4 | apply CutE.go3 | apply CutE.go2 | apply CutE.go1 | apply wrapS | apply Eq.refl)) | ((first | (with_reducible show rvEq _ _ _ _) | (with_reducible show svEq _ _ _) | (with_reducible show cellEq _ _ _ _) | (with_reducible show blkEq _ _ _)); conv => whnf))
set_option maxHeartbeats 4000000 in
set_option maxRecDepth 100000 in
theorem run3_ok : Meets Try.prog 46 sRun3 := by
  refine meets_lent 2 T2_ok rfl [] (fn := Try.f46) rfl rfl rfl (by decide) (fun _ => rfl) (fun _ => rfl) (by decide) fun (w, g) _ => ?_
  repeat' (first | (intro h; first | exact Bool.noConfusion h | (guard_hyp h : true = true; clear h) | (guard_hyp h : false = false; clear h) | (simp only [decide_eq_true_eq, decide_eq_false_iff_not, beq_iff_eq, beq_eq_false_iff_ne, bne_iff_ne, bne_eq_false_iff_eq, Bool.not_eq_true', Bool.not_eq_false', ne_eq, Classical.not_not, Bool.not_true, Bool.not_false] at h) | skip) | ((conv => whnf) <;> (first | exact True.intro | apply And.intro | apply EntP.go | apply DrawP.go | (apply AnyP.mk; kernel_rfl) | apply CallP.own1 | apply CallP.own2 | apply CallP.own3 | apply CallP.nb | apply CutE.go0 | apply CutE.go7 | apply CutE.go6 | apply CutE.go5 | apply CutE.go4 | apply CutE.go3 | apply CutE.go2 | apply CutE.go1 | apply wrapS | apply Eq.refl)) | ((first | (with_reducible show rvEq _ _ _ _) | (with_reducible show svEq _ _ _) | (with_reducible show cellEq _ _ _ _) | (with_reducible show blkEq _ _ _)); conv => whnf))

def T4 : List (Nat × FSpec) := [(44, sRun1), (45, sRun2), (46, sRun3), (16, sAlive), (22, sIsGate), (24, sIsWord), (23, sRFlip), (25, sRLeave), (26, sREnter), (27, sROld), (13, sEnter), (14, sLeave), (15, sFlip), (21, sOld), (39, sIsWord), (40, sIsGate)]
theorem T4_ok : GOK Try.prog (tab T4) := gok_cons run1_ok (gok_cons run2_ok (gok_cons run3_ok T3_ok))

/-- A word, a gate and an error behind a deed. -/
def deed (d w g : Int) : Int × Int × Int := if d = 0 then ((enterF w g).1, g, (enterF w g).2) else if d = 1 then ((leaveF w).1, g, (leaveF w).2) else (w, (flipF g).1, (flipF g).2)
def runF : List Int → Int → Int → Int → Option (Int × Int × Int)
  | [], w, g, n => some (w, g, n)
  | d :: l, w, g, n => if d < 0 ∨ 3 ≤ d then none else if (deed d w g).2.2 = 0 then runF l (deed d w g).1 (deed d w g).2.1 n else runF l w g (n + 1)
def o1 : Option (Int × Int × Int) → Int
  | some (a, _, _) => a
  | none => 0
def o2 : Option (Int × Int × Int) → Int
  | some (_, b, _) => b
  | none => 0
def o3 : Option (Int × Int × Int) → Int
  | some (_, _, c) => c
  | none => 0
def o4 : Option (Int × Int × Int) → Int
  | some _ => 0
  | none => 1
def resR (o : Option (Int × Int × Int)) : RV := .tup [.c (.i (o1 o)), .c (.i (o2 o)), .c (.i (o3 o)), .c (.i (o4 o))]
def intsS (l : List Int) : Cell := slC 1 encI l
def sRun : FSpec := spec (Int × Int × List Int) (fun (w, g, l) => [.i w, .i g, .c (intsS l)]) (fun (_, _, l) => l.length ≤ 1000000)
  fun (w, g, l) => resR (if isW w && isG g then runF l w g 0 else none)

theorem leave_in {w : Int} (hw : isW w = true) : (w % 64 = 0 → (leaveF w).1 = 0 ∧ (leaveF w).2 = 8) ∧ (w % 64 ≠ 0 → (leaveF w).1 = w - 1 ∧ (leaveF w).2 = 0) := by
  simp only [leaveF, hw, if_true]
  refine ⟨fun h => ?_, fun h => ?_⟩
  · simp [h]
  · simp [h]
theorem flip_in {g : Int} (hg : isG g = true) : (flipF g).1 = 66 - g ∧ (flipF g).2 = 0 := by
  simp only [flipF, hg, if_true]
  exact ⟨trivial, trivial⟩

theorem enter_W {w g : Int} (hw : isW w = true) (hg : isG g = true) (h : (enterF w g).2 = 0) : isW (enterF w g).1 = true := by
  rw [isW_iff] at *
  rw [isG_iff] at hg
  simp only [enterF] at *
  split at h <;> simp_all
  split at h <;> simp_all
  · omega
  · split at h <;> simp_all
    omega
theorem leave_W {w : Int} (hw : isW w = true) (h : (leaveF w).2 = 0) : isW (leaveF w).1 = true := by
  have := leave_in hw
  rw [isW_iff] at hw
  by_cases e : w % 64 = 0
  · have := (this.1 e).2; omega
  · have := (this.2 e).1; rw [this, isW_iff]; omega
theorem flip_G {g : Int} (hg : isG g = true) : isG (flipF g).1 = true := by
  have := flip_in hg
  rw [isG_iff] at *
  omega
theorem runF_ok {d : Int} {l : List Int} {w g n : Int} (h1 : ¬ d < 0) (h2 : ¬ 3 ≤ d) : runF (d :: l) w g n = if (deed d w g).2.2 = 0 then runF l (deed d w g).1 (deed d w g).2.1 n else runF l w g (n + 1) := by
  rw [runF, if_neg (by omega)]
theorem runF_bad {d : Int} {l : List Int} {w g n : Int} (h : d < 0 ∨ 3 ≤ d) : runF (d :: l) w g n = none := by
  rw [runF, if_pos h]

structure RunI (l : List Int) (w0 g0 : Int) (s : Int × Int × Int × Int) : Prop where
  hi : 0 ≤ s.1 ∧ s.1 ≤ l.length
  hw : isW s.2.1 = true
  hg : isG s.2.2.1 = true
  hn : 0 ≤ s.2.2.2 ∧ s.2.2.2 ≤ s.1
  run : runF l w0 g0 0 = runF (l.drop s.1.toNat) s.2.1 s.2.2.1 s.2.2.2

set_option maxHeartbeats 4000000 in
set_option maxRecDepth 100000 in
theorem run_ok : Meets Try.prog 33 sRun := by
  refine meets_plain T4_ok rfl [] (fn := Try.f33) rfl rfl rfl (by decide) fun ⟨w0, g0, l⟩ hl => ?_
  repeat' (first | (intro h; first | exact Bool.noConfusion h | (guard_hyp h : true = true; clear h) | (guard_hyp h : false = false; clear h) | (simp only [decide_eq_true_eq, decide_eq_false_iff_not, beq_iff_eq, beq_eq_false_iff_ne, bne_iff_ne, bne_eq_false_iff_eq, Bool.not_eq_true', Bool.not_eq_false', ne_eq, Classical.not_not, Bool.not_true, Bool.not_false] at h) | skip) | ((conv => whnf) <;> (first | exact True.intro | apply And.intro | apply EntP.go | apply DrawP.go | (apply AnyP.mk; kernel_rfl) | apply CallP.own1 | apply CallP.own2 | apply CallP.own3 | apply CallP.nb | apply CutE.go0 | apply CutE.go7 | apply CutE.go6 | apply CutE.go5 | apply CutE.go4 | apply CutE.go3 | apply CutE.go2 | apply CutE.go1 | apply wrapS | apply Eq.refl)) | ((first | (with_reducible show rvEq _ _ _ _) | (with_reducible show svEq _ _ _) | (with_reducible show cellEq _ _ _ _) | (with_reducible show blkEq _ _ _)); conv => whnf))
  · simp_all [resR, o1]
  · simp_all [resR, o2]
  · simp_all [resR, o3]
  · simp_all [resR, o4]
  · simp_all [resR, o1]
  · simp_all [resR, o2]
  · simp_all [resR, o3]
  · simp_all [resR, o4]
  apply LoopP.up (RunI l w0 g0) [3, 4, 10, 11, 29, 30, 31] (fun (i, w, g, n) => [(31, .i i), (11, .i n)]) (fun (i, w, g, n) => [(0, .row 3 [.i w]), (1, .row 3 [.i g])]) 3 (fun s => (l.length - s.1).toNat)
  skip
  apply And.intro
  · repeat' (first | (intro h; first | exact Bool.noConfusion h | (guard_hyp h : true = true; clear h) | (guard_hyp h : false = false; clear h) | (simp only [decide_eq_true_eq, decide_eq_false_iff_not, beq_iff_eq, beq_eq_false_iff_ne, bne_iff_ne, bne_eq_false_iff_eq, Bool.not_eq_true', Bool.not_eq_false', ne_eq, Classical.not_not, Bool.not_true, Bool.not_false] at h) | skip) | ((conv => whnf) <;> (first | exact True.intro | apply And.intro | apply EntP.go | apply DrawP.go | (apply AnyP.mk; kernel_rfl) | apply CallP.own1 | apply CallP.own2 | apply CallP.own3 | apply CallP.nb | apply CutE.go0 | apply CutE.go7 | apply CutE.go6 | apply CutE.go5 | apply CutE.go4 | apply CutE.go3 | apply CutE.go2 | apply CutE.go1 | apply wrapS | apply Eq.refl)) | ((first | (with_reducible show rvEq _ _ _ _) | (with_reducible show svEq _ _ _) | (with_reducible show cellEq _ _ _ _) | (with_reducible show blkEq _ _ _)); conv => whnf))
    all_goals first | omega | (exact ⟨⟨by simp, by simp⟩, by assumption, by assumption, by simp, rfl⟩) | trace_state
  · rintro ⟨i, w, g, n⟩ ⟨hi, hw, hg, hn, hrun⟩
    simp only at hi hw hg hn hrun
    obtain ⟨k, rfl⟩ : ∃ k : Nat, i = k := ⟨i.toNat, by omega⟩
    have hl' : l.length ≤ 1000000 := hl
    have hd : k < l.length → l.drop k = l.getD k default :: l.drop (k + 1) := drop_getD
    have e1 : (if (isW w0 && isG g0) = true then runF l w0 g0 0 else none) = runF (l.drop k) w g n := by simp_all
    repeat' (first | (intro h; first | exact Bool.noConfusion h | (guard_hyp h : true = true; clear h) | (guard_hyp h : false = false; clear h) | (simp only [decide_eq_true_eq, decide_eq_false_iff_not, beq_iff_eq, beq_eq_false_iff_ne, bne_iff_ne, bne_eq_false_iff_eq, Bool.not_eq_true', Bool.not_eq_false', ne_eq, Classical.not_not, Bool.not_true, Bool.not_false] at h) | skip) | ((conv => whnf) <;> (first | exact True.intro | apply And.intro | apply EntP.go | apply DrawP.go | (apply AnyP.mk; kernel_rfl) | apply CallP.own1 | apply CallP.own2 | apply CallP.own3 | apply CallP.nb | apply CutE.go0 | apply CutE.go7 | apply CutE.go6 | apply CutE.go5 | apply CutE.go4 | apply CutE.go3 | apply CutE.go2 | apply CutE.go1 | apply wrapS | apply Eq.refl)) | ((first | (with_reducible show rvEq _ _ _ _) | (with_reducible show svEq _ _ _) | (with_reducible show cellEq _ _ _ _) | (with_reducible show blkEq _ _ _)); conv => whnf))
    all_goals try simp only [e1]
    all_goals have w1 : k < l.length → IntKind.i64.wrap ((k : Int) + 1) = ((k + 1 : Nat) : Int) := fun h => wrap_add1 (by omega)
    all_goals have w2 : IntKind.i64.wrap (n + 1) = n + 1 := wrap_i64 ⟨by omega, by omega⟩
    all_goals try simp only [w2, w1 (by omega), Int.toNat_natCast, ge_iff_le] at *
    all_goals clear w1 w2
    all_goals generalize l.getD k default = d at *
    all_goals first
      | omega
      | (rw [hd (by omega), runF_bad (by omega)]; rfl)
      | (rw [List.drop_eq_nil_of_le (by omega)]; rfl)
      | (rw [hd (by omega), runF_ok (by omega) (by omega)] at hrun
         refine ⟨⟨by simp; omega, by simp; omega⟩, by first | assumption | (apply enter_W <;> assumption) | (apply leave_W <;> assumption), by first | assumption | (apply flip_G; assumption), ⟨by simp; omega, by simp; omega⟩, hrun.trans ?_⟩
         simp only [deed, *]
         first | (simp; done) | (simp; intro h; contradiction))
end Go.Eng
