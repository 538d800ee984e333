/- Puts as arguments. -/
import Derived.Test.YtpcimaemigchiaaBufL
set_option linter.unusedVariables false
set_option linter.unusedSimpArgs false
namespace Go.Eng
open Go Go.Proofs
set_option maxRecDepth 100000 in
theorem opPut : Opens Try.prog 24 2 encP (fun _ => True) :=
  Opens.map (Opens.struct Try.underlying24 (by kernel_rfl) (OpensF.cons rfl (Opens.int Try.underlying3 (by kernel_rfl)) (OpensF.cons rfl (Opens.int Try.underlying3 (by kernel_rfl)) OpensF.nil)))
    (fun x => ((x.1, x.2.1) : Put)) (fun _ _ => rfl) (fun _ _ => trivial) (fun _ _ => rfl)
end Go.Eng
