/- Instructions as arguments. -/
import Derived.Test.YtgjdbpleoegejaaFrO
import Derived.Test.YtgjdbpleoegejaaLoK
set_option linter.unusedVariables false
set_option linter.unusedSimpArgs false
namespace Go.Eng
open Go Go.Proofs
set_option maxRecDepth 100000 in
theorem opIns : Opens Try.prog 39 4 encIns (fun _ => True) := by
  have hh := (Opens.struct Try.underlying39 (by kernel_rfl) (OpensF.cons rfl (Opens.int Try.underlying3 (by kernel_rfl)) (OpensF.cons rfl (Opens.int Try.underlying3 (by kernel_rfl)) (OpensF.cons rfl (Opens.int Try.underlying3 (by kernel_rfl)) (OpensF.cons rfl (Opens.int Try.underlying3 (by kernel_rfl)) OpensF.nil)))))
  exact Opens.map hh (fun (x : Int × Int × Int × Int × Unit) => ((x.1, x.2.1, x.2.2.1, x.2.2.2.1) : Ins)) (fun _ _ => rfl) (fun _ _ => trivial) (fun _ _ => rfl)
end Go.Eng
