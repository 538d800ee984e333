/- PhaseFlips, walked. -/
import Derived.Test.YthhangpcedbhdaaEngB
import Derived.Test.YthhangpcedbhdaaPhase
set_option linter.unusedVariables false
set_option linter.unusedSimpArgs false
namespace Go.Eng
open Go Go.Proofs

theorem flip_is {g : Int} (hg : isG g = true) : isG (66 - g) = true ∧ flipF g = (66 - g, 0) ∧ flipF (66 - g) = (g, 0) ∧ ¬ 66 - g = g := by
  have h := isG_iff.1 hg
  have h2 : isG (66 - g) = true := isG_iff.2 (by omega)
  refine ⟨h2, by simp [flipF, hg], ?_, by omega⟩
  simp only [flipF, h2, if_true]
  congr 1; omega
theorem flip_not {g : Int} (hg : isG g = false) : flipF g = (0, 1) ∧ flipF 0 = (0, 1) := by
  refine ⟨by simp [flipF, hg], by decide⟩
theorem old_is {w g : Int} (hw : isW w = true) (hg : isG g = true) : oldF w g = (decide (w % 64 ≠ 0) && decide (w / 64 ≠ g / 64), 0) := by simp [oldF, hw, hg]
theorem old_not {w g : Int} (hw : isW w = false) : oldF w g = (false, 1) := by simp [oldF, hw]
theorem phase_of {w : Int} (hw : isW w = true) : Go.bits .and .i64 w 64 = if w < 64 then 0 else 64 := by
  have key : ∀ w : Fin 128, Go.bits .and .i64 (w.val : Int) 64 = if w.val < 64 then 0 else 64 := by decide +kernel
  rw [isW_iff] at hw
  have e : ((⟨w.toNat, by omega⟩ : Fin 128).val : Int) = w := by show ((w.toNat : Nat) : Int) = w; omega
  have := key ⟨w.toNat, by omega⟩
  rw [e] at this
  rw [this]
  show (if w.toNat < 64 then (0 : Int) else 64) = _
  split <;> split <;> omega
theorem enter_ph {w g : Int} (hw : isW w = true) (hg : isG g = true) : enterF (Go.bits .and .i64 w 64) g = (g, 0) ∧ isW (Go.bits .and .i64 w 64) = true := by
  rw [phase_of hw]
  split
  · exact ⟨by simp [enterF, hg, show isW 0 = true from rfl], rfl⟩
  · exact ⟨by simp [enterF, hg, show isW 64 = true from rfl], rfl⟩
theorem old_self {g : Int} (hg : isG g = true) : oldF g g = (false, 0) := by
  have h := isG_iff.1 hg
  rcases h with rfl | rfl <;> decide

set_option maxHeartbeats 4000000 in
set_option maxRecDepth 100000 in
theorem flips_ok : Meets Try.prog 6 sLaw2 := by
  refine meets_plain T3_ok rfl [] (fn := Try.f6) rfl rfl rfl (by decide) fun ⟨w, g⟩ _ => ?_
  cases hg : isG g with
  | false =>
    have e1 := (flip_not hg).1
    have e2 := (flip_not hg).2
    repeat' (first | (intro h; first | exact Bool.noConfusion h | (guard_hyp h : true = true; clear h) | (guard_hyp h : false = false; clear h) | skip) | ((conv => whnf) <;> (first | exact True.intro | apply And.intro | apply EntP.go | apply CallP.go2 | apply CallP.go0 | apply CallP.go | apply CutE.go5 | apply Eq.refl)))
    all_goals (conv => whnf)
    all_goals (simp only [e1, e2] at *)
    all_goals (simp_all; done)
  | true =>
    obtain ⟨hg2, e1, e2, e3⟩ := flip_is hg
    cases hw : isW w with
    | false =>
      have e4 : ∀ x, oldF w x = (false, 1) := fun x => old_not hw
      repeat' (first | (intro h; first | exact Bool.noConfusion h | (guard_hyp h : true = true; clear h) | (guard_hyp h : false = false; clear h) | skip) | ((conv => whnf) <;> (first | exact True.intro | apply And.intro | apply EntP.go | apply CallP.go2 | apply CallP.go0 | apply CallP.go | apply CutE.go5 | apply Eq.refl)))
      all_goals (conv => whnf)
      all_goals (simp only [e1, e2, e4] at *)
      all_goals (simp_all; done)
    | true =>
      have e4 := old_is hw hg
      have e5 := old_is hw hg2
      have e6 := (enter_ph hw hg2).1
      have e7 := old_self hg2
      have b1 := and63W hw
      have hw2 := isW_iff.1 hw
      have hg3 := isG_iff.1 hg
      repeat' (first | (intro h; first | exact Bool.noConfusion h | (guard_hyp h : true = true; clear h) | (guard_hyp h : false = false; clear h) | skip) | ((conv => whnf) <;> (first | exact True.intro | apply And.intro | apply EntP.go | apply CallP.go2 | apply CallP.go0 | apply CallP.go | apply CutE.go5 | apply Eq.refl)))
      all_goals (conv => whnf)
      all_goals (simp only [e1, e2, e4, e5, e6, e7, b1] at *)
      all_goals (rcases hg3 with rfl | rfl) <;> (rcases (by omega : w / 64 = 0 ∨ w / 64 = 1) with h9 | h9) <;> (by_cases h8 : w % 64 = 0) <;> simp_all
      all_goals first | omega | (exfalso; omega)
end Go.Eng
