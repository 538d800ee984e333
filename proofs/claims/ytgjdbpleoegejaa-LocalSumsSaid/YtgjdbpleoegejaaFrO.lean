/- Threads as arguments. -/
import Derived.Test.YtgjdbpleoegejaaFrG
set_option linter.unusedVariables false
set_option linter.unusedSimpArgs false
namespace Go.Eng
open Go Go.Proofs
set_option maxRecDepth 100000 in
theorem opFr : Opens Try.prog 54 5 encFr (fun _ => True) := by
  have hh := (Opens.struct Try.underlying54 (by kernel_rfl) (OpensF.cons rfl (Opens.int Try.underlying3 (by kernel_rfl)) (OpensF.cons rfl (Opens.array Try.underlying52 (by kernel_rfl) (Opens.int Try.underlying3 (by kernel_rfl))) OpensF.nil)))
  exact Opens.map hh (fun (x : Int × List Int × Unit) => (⟨x.1, x.2.1.getD 0 0, x.2.1.getD 1 0, x.2.1.getD 2 0, x.2.1.getD 3 0⟩ : FrT))
    (by
      rintro ⟨b, l, _⟩ ⟨_, ⟨hl, _⟩, _⟩
      match l, hl with
      | [x0, x1, x2, x3], _ => rfl)
    (fun _ _ => trivial) (fun _ _ => rfl)
set_option maxRecDepth 100000 in
theorem opTh : Opens Try.prog 27 13 thC (fun _ => True) := by
  have hh := (Opens.struct Try.underlying27 (by kernel_rfl) (OpensF.cons rfl (Opens.int Try.underlying3 (by kernel_rfl)) (OpensF.cons rfl (Opens.array Try.underlying22 (by kernel_rfl) (Opens.int Try.underlying3 (by kernel_rfl)))
    (OpensF.cons rfl (Opens.slice Try.underlying23 (by kernel_rfl) (by decide) opFr) (OpensF.cons rfl (Opens.int Try.underlying3 (by kernel_rfl)) (OpensF.cons rfl (Opens.int Try.underlying24 (by kernel_rfl))
      (OpensF.cons rfl (Opens.slice Try.underlying25 (by kernel_rfl) (by decide) (Opens.int Try.underlying3 (by kernel_rfl))) OpensF.nil)))))))
  exact Opens.map hh (fun (x : Int × List Int × List FrT × Int × Int × List Int × Unit) => (⟨x.1, x.2.1.getD 0 0, x.2.1.getD 1 0, x.2.1.getD 2 0, x.2.1.getD 3 0, x.2.1.getD 4 0, x.2.1.getD 5 0, x.2.1.getD 6 0, x.2.1.getD 7 0, x.2.2.1, x.2.2.2.1, x.2.2.2.2.1, x.2.2.2.2.2.1⟩ : Th))
    (by
      rintro ⟨pc, l, fs, st, fa, lf, _⟩ ⟨_, ⟨hl, _⟩, _⟩
      match l, hl with
      | [x0, x1, x2, x3, x4, x5, x6, x7], _ => rfl)
    (fun _ _ => trivial) (fun _ _ => rfl)
set_option maxRecDepth 100000 in
theorem opRegs : Opens Try.prog 22 8 (fun q : Int × Int × Int × Int × Int × Int × Int × Int => [.i q.1, .i q.2.1, .i q.2.2.1, .i q.2.2.2.1, .i q.2.2.2.2.1, .i q.2.2.2.2.2.1, .i q.2.2.2.2.2.2.1, .i q.2.2.2.2.2.2.2]) (fun _ => True) := by
  have hh := (Opens.array Try.underlying22 (by kernel_rfl) (Opens.int Try.underlying3 (by kernel_rfl)))
  exact Opens.map hh (fun (l : List Int) => (l.getD 0 0, l.getD 1 0, l.getD 2 0, l.getD 3 0, l.getD 4 0, l.getD 5 0, l.getD 6 0, l.getD 7 0))
    (by
      rintro l ⟨hl, _⟩
      match l, hl with
      | [x0, x1, x2, x3, x4, x5, x6, x7], _ => rfl)
    (fun _ _ => trivial) (fun _ _ => rfl)
end Go.Eng
