/- Pools as arguments. -/
import Derived.Test.YtmjogckeaaaicaaPoIter
set_option linter.unusedVariables false
set_option linter.unusedSimpArgs false
namespace Go.Eng
open Go Go.Proofs
set_option maxRecDepth 100000 in
theorem opPl : Opens Try.prog 48 4 plC (fun _ => True) := by
  have hh := (Opens.struct Try.underlying48 (by kernel_rfl) (OpensF.cons rfl (Opens.int Try.underlying3 (by kernel_rfl)) (OpensF.cons rfl (Opens.int Try.underlying3 (by kernel_rfl)) (OpensF.cons rfl (Opens.int Try.underlying3 (by kernel_rfl)) (OpensF.cons rfl (Opens.slice Try.underlying24 (by kernel_rfl) (by decide) (Opens.int Try.underlying3 (by kernel_rfl))) OpensF.nil)))))
  exact Opens.map hh (fun (x : Int × Int × Int × List Int × Unit) => ((x.1, x.2.1, x.2.2.1, x.2.2.2.1) : Pl)) (fun _ _ => rfl) (fun _ _ => trivial) (fun _ _ => rfl)
end Go.Eng
