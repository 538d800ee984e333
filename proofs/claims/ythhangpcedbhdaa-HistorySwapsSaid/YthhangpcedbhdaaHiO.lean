/- Events as arguments. -/
import Derived.Test.YthhangpcedbhdaaHiA
set_option linter.unusedVariables false
set_option linter.unusedSimpArgs false
namespace Go.Eng
open Go Go.Proofs
set_option maxRecDepth 100000 in
theorem opEv : Opens Try.prog 53 6 encEv (fun _ => True) := by
  have hh := (Opens.struct Try.underlying53 (by kernel_rfl) (OpensF.cons rfl (Opens.int Try.underlying3 (by kernel_rfl)) (OpensF.cons rfl (Opens.int Try.underlying3 (by kernel_rfl)) (OpensF.cons rfl (Opens.array Try.underlying51 (by kernel_rfl) (Opens.int Try.underlying3 (by kernel_rfl))) OpensF.nil))))
  exact Opens.map hh (fun (x : Int × Int × List Int × Unit) => ((x.1, x.2.1, x.2.2.1.getD 0 0, x.2.2.1.getD 1 0, x.2.2.1.getD 2 0, x.2.2.1.getD 3 0) : Ev))
    (by
      rintro ⟨a, b, l, _⟩ ⟨_, _, ⟨hl, _⟩, _⟩
      match l, hl with
      | [x0, x1, x2, x3], _ => rfl)
    (fun _ _ => trivial) (fun _ _ => rfl)
end Go.Eng
