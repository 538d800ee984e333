/- Eight registers as an argument. -/
import Derived.Test.YtgjdbpleoegejaaFrO
import Derived.Test.YtgjdbpleoegejaaLoT
set_option linter.unusedVariables false
set_option linter.unusedSimpArgs false
namespace Go.Eng
open Go Go.Proofs
theorem okWide_arrL {P : Program} {w : World} {r : Reach} {base : Nat} {t e : TypeId} {n : Nat} {v : Value} (ht : P.underlying t = some (.array n e)) (h : Value.okWide P w r base t v) : ∃ cs, v = .agg cs ∧ cs.size = P.cellsOf t := by
  simp only [Value.okWide, ht] at h
  obtain ⟨cs, h1, h2, _⟩ := h
  exact ⟨cs, h1, h2⟩
set_option maxRecDepth 100000 in
theorem opRegsOk : Opens Try.prog 22 8 encQ OkQ := by
  have hh := (Opens.array Try.underlying22 (by kernel_rfl) (Opens.int Try.underlying3 (by kernel_rfl)))
  exact Opens.map hh (fun (l : List Int) => (l.getD 0 0, l.getD 1 0, l.getD 2 0, l.getD 3 0, l.getD 4 0, l.getD 5 0, l.getD 6 0, l.getD 7 0))
    (by
      rintro l ⟨hl, _⟩
      match l, hl with
      | [x0, x1, x2, x3, x4, x5, x6, x7], _ => rfl)
    (by
      rintro l ⟨hl, ho⟩
      match l, hl with
      | [x0, x1, x2, x3, x4, x5, x6, x7], _ => exact ⟨ho _ (by simp), ho _ (by simp), ho _ (by simp), ho _ (by simp), ho _ (by simp), ho _ (by simp), ho _ (by simp), ho _ (by simp)⟩)
    (fun _ _ => rfl)
end Go.Eng
