/- Threads, instructions, acts as arguments. -/
import Derived.Test.YtgahcoccodhkmaaGreatStFb
set_option linter.unusedVariables false
set_option linter.unusedSimpArgs false
namespace Go.Eng
open Go Go.Proofs
set_option maxRecDepth 100000 in
theorem opFr : Opens Tryz.prog 83 5 encFr (fun _ => True) := by
  have hh := (Opens.struct Tryz.underlying83 (by kernel_rfl) (OpensF.cons rfl (Opens.int Tryz.underlying3 (by kernel_rfl)) (OpensF.cons rfl (Opens.array Tryz.underlying81 (by kernel_rfl) (Opens.int Tryz.underlying3 (by kernel_rfl))) OpensF.nil)))
  exact Opens.map hh (fun (x : Int × List Int × Unit) => (⟨x.1, x.2.1.getD 0 0, x.2.1.getD 1 0, x.2.1.getD 2 0, x.2.1.getD 3 0⟩ : FrT))
    (by
      rintro ⟨b, l, _⟩ ⟨_, ⟨hl, _⟩, _⟩
      match l, hl with
      | [x0, x1, x2, x3], _ => rfl)
    (fun _ _ => trivial) (fun _ _ => rfl)
set_option maxRecDepth 100000 in
theorem opTh : Opens Tryz.prog 44 13 (thE false) (fun _ => True) := by
  have hh := (Opens.struct Tryz.underlying44 (by kernel_rfl) (OpensF.cons rfl (Opens.int Tryz.underlying3 (by kernel_rfl)) (OpensF.cons rfl (Opens.array Tryz.underlying41 (by kernel_rfl) (Opens.int Tryz.underlying3 (by kernel_rfl)))
    (OpensF.cons rfl (Opens.slice Tryz.underlying42 (by kernel_rfl) (by decide) opFr) (OpensF.cons rfl (Opens.int Tryz.underlying3 (by kernel_rfl)) (OpensF.cons rfl (Opens.int Tryz.underlying35 (by kernel_rfl))
      (OpensF.cons rfl (Opens.slice Tryz.underlying23 (by kernel_rfl) (by decide) (Opens.int Tryz.underlying3 (by kernel_rfl))) OpensF.nil)))))))
  exact Opens.map hh (fun (x : Int × List Int × List FrT × Int × Int × List Int × Unit) => (⟨x.1, x.2.1.getD 0 0, x.2.1.getD 1 0, x.2.1.getD 2 0, x.2.1.getD 3 0, x.2.1.getD 4 0, x.2.1.getD 5 0, x.2.1.getD 6 0, x.2.1.getD 7 0, x.2.2.1, x.2.2.2.1, x.2.2.2.2.1, x.2.2.2.2.2.1⟩ : Th))
    (by
      rintro ⟨pc, l, fs, st, fa, lf, _⟩ ⟨_, ⟨hl, _⟩, _⟩
      match l, hl with
      | [x0, x1, x2, x3, x4, x5, x6, x7], _ => rfl)
    (fun _ _ => trivial) (fun _ _ => rfl)
set_option maxRecDepth 100000 in
theorem opIns : Opens Tryz.prog 64 4 encIns (fun _ => True) := by
  have hh := (Opens.struct Tryz.underlying64 (by kernel_rfl) (OpensF.cons rfl (Opens.int Tryz.underlying3 (by kernel_rfl)) (OpensF.cons rfl (Opens.int Tryz.underlying3 (by kernel_rfl)) (OpensF.cons rfl (Opens.int Tryz.underlying3 (by kernel_rfl)) (OpensF.cons rfl (Opens.int Tryz.underlying3 (by kernel_rfl)) OpensF.nil)))))
  exact Opens.map hh (fun (x : Int × Int × Int × Int × Unit) => ((x.1, x.2.1, x.2.2.1, x.2.2.2.1) : Ins)) (fun _ _ => rfl) (fun _ _ => trivial) (fun _ _ => rfl)
set_option maxRecDepth 100000 in
theorem opAct : Opens Tryz.prog 66 2 encAct (fun _ => True) := by
  have hh := (Opens.struct Tryz.underlying66 (by kernel_rfl) (OpensF.cons rfl (Opens.int Tryz.underlying3 (by kernel_rfl)) (OpensF.cons rfl (Opens.int Tryz.underlying3 (by kernel_rfl)) OpensF.nil)))
  exact Opens.map hh (fun (x : Int × Int × Unit) => ((x.1, x.2.1) : Act)) (fun _ _ => rfl) (fun _ _ => trivial) (fun _ _ => rfl)
end Go.Eng
