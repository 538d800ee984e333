/- WeighPicks holds for every input that can be read: no condition but those of the statement itself. -/
import Derived.Test.YtmjogckeaaaicaaRows
import Derived.Test.YtmjogckeaaaicaaEngC
import Derived.Test.YtmjogckeaaaicaaWkK
import Derived.WalkKit
import Derived.ProofKit
import Derived.OpenShut
import Derived.ChangeOld
import Derived.Below
import Derived.SizedLaws
set_option linter.unusedVariables false
set_option linter.unusedSimpArgs false
namespace Go.Proofs.Ytmjogckeaaaicaa.weighPicks
open Go.ChangeShapes Go.WideShapes Go.ChangeAt Go.RowKit
set_option linter.unusedVariables false
theorem laidOut : laidOutB Try.prog = true := by kernel_rfl
theorem own : ownKnob Try.prog.godebug = none := by kernel_rfl
set_option maxRecDepth 100000 in
theorem lifted (os : Os) (started : os.Started) (H : Type) (enc : TypeId × Value → H) :
    ReturnsInHanded {} Try.checked os 6 .any (Rows.weighPicksSpec.pre6 enc Try.prog Try.f6 Rows.weighPicksRow.domain false) (Rows.weighPicksSpec.post enc Try.prog Try.f6 false true false false) := by
  refine returnsInHanded_of_change_sized (C := Try.checked) own started (by kernel_rfl) Try.func6
    (ChangeSpec.witness6 (enc := enc) (C := Try.checked) false ⟨#[], #[.slice none 0 0, .int .i64 0, .slice none 0 0, .int .i64 0], []⟩ 8 (by kernel_rfl) (by kernel_rfl) (by kernel_rfl) (by kernel_rfl)) ?_
  intro W base args ds gs before hval0 hW hcnd hsz0 _
  have hval : ∀ (j : Nat) t v, Try.f6.params[j]? = some t → args[j]? = some v → Value.okWide Try.prog W .any base t v := hval0
  have hW' := hW
  obtain ⟨p, q, hA0, hV, rfl, hfz, hnd⟩ := hW
  have hA : DataW.TrodAll enc Try.prog W 0 (fun _ => true) true Try.f6.params.toList args.toList ds p := hA0
  rw [Try.params6] at hA hval
  obtain ⟨v0, vs0, d0, ds0, p0, q0, hargs, rfl, rfl, h0, r0'⟩ := trodAll_cons hA
  obtain ⟨v1, vs1, d1, ds1, p1, q1, rfl, rfl, rfl, h1, r1'⟩ := trodAll_cons r0'
  obtain ⟨v2, vs2, d2, ds2, p2, q2, rfl, rfl, rfl, h2, r2'⟩ := trodAll_cons r1'
  obtain ⟨v3, vs3, d3, ds3, p3, q3, rfl, rfl, rfl, h3, r3'⟩ := trodAll_cons r2'
  obtain ⟨rfl, rfl, rfl⟩ := trodAll_nil r3'
  obtain rfl : args = #[v0, v1, v2, v3] := by cases args; simp_all
  obtain ⟨rfl, rfl⟩ := trodVars_none hV
  have k0 := h0
  have lt0 : ∀ x ∈ p0, x.block < W.heap.size := by obtain ⟨m, hm⟩ := k0; exact DataW.trod_lt m _ _ _ hm
  have k1 := h1
  have lt1 : ∀ x ∈ p1, x.block < W.heap.size := by obtain ⟨m, hm⟩ := k1; exact DataW.trod_lt m _ _ _ hm
  have k2 := h2
  have lt2 : ∀ x ∈ p2, x.block < W.heap.size := by obtain ⟨m, hm⟩ := k2; exact DataW.trod_lt m _ _ _ hm
  have k3 := h3
  have lt3 : ∀ x ∈ p3, x.block < W.heap.size := by obtain ⟨m, hm⟩ := k3; exact DataW.trod_lt m _ _ _ hm
  obtain ⟨za0, zl0, zc0, rfl⟩ := okWide_slice Try.underlying22 (hval 0 22 _ rfl rfl)
  obtain ⟨x0, ok0, r0⟩ := Go.Eng.Opens.arg1 (Go.Eng.Opens.slice Try.underlying22 (by kernel_rfl) (by decide) (Go.Eng.Opens.float Try.underlying29 (by kernel_rfl))) (fun _ => rfl) rfl k0
  obtain ⟨z1, rfl⟩ := okWide_int Try.underlying3 (hval 1 3 _ rfl rfl)
  obtain ⟨x1, ok1, r1⟩ := Go.Eng.Opens.arg1 (c := fun a => Go.Eng.Cell.i a) (Go.Eng.Opens.int Try.underlying3 (by kernel_rfl)) (fun _ => rfl) rfl k1
  obtain ⟨za2, zl2, zc2, rfl⟩ := okWide_slice Try.underlying24 (hval 2 24 _ rfl rfl)
  obtain ⟨x2, ok2, r2⟩ := Go.Eng.Opens.arg1 (Go.Eng.Opens.slice Try.underlying24 (by kernel_rfl) (by decide) (Go.Eng.Opens.int Try.underlying3 (by kernel_rfl))) (fun _ => rfl) rfl k2
  obtain ⟨z3, rfl⟩ := okWide_int Try.underlying3 (hval 3 3 _ rfl rfl)
  obtain ⟨x3, ok3, r3⟩ := Go.Eng.Opens.arg1 (c := fun a => Go.Eng.Cell.i a) (Go.Eng.Opens.int Try.underlying3 (by kernel_rfl)) (fun _ => rfl) rfl k3
  refine (Go.Eng.calls_true Go.Eng.wpicks_ok (x0, x1, x2, x3) (Go.Eng.okL_of ok0.2) (Go.Eng.args4 r0 r1 r2 r3)).mono fun e W' ⟨he, bel⟩ => ?_
  subst he
  exact ⟨_, rfl, _, _, _, [], _, [], hW', trodAll_mk1 (shut_bool Try.underlying4 _), (trodAll_cons_mk (Below.trod laidOut (by kernel_rfl) (of_decide_eq_true (by kernel_rfl)) k0 bel lt0) (trodAll_cons_mk (Below.trod laidOut (by kernel_rfl) (of_decide_eq_true (by kernel_rfl)) k1 bel lt1) (trodAll_cons_mk (Below.trod laidOut (by kernel_rfl) (of_decide_eq_true (by kernel_rfl)) k2 bel lt2) (trodAll_cons_mk (Below.trod laidOut (by kernel_rfl) (of_decide_eq_true (by kernel_rfl)) k3 bel lt3) trodAll_mk0)))), rfl, bel.frame _, fun h => by cases h⟩
theorem over : Rows.weighPicksRow.holds Try.pinned (OpenSpec.ofChange Rows.weighPicksSpec) :=
  OpenClaim.holds_of_wide 6 Try.f6 rfl rfl rfl rfl rfl rfl rfl ⟨rfl, rfl, rfl, rfl, rfl⟩ rfl rfl rfl rfl rfl (by kernel_rfl) Try.func6 (by kernel_rfl)
    (of_decide_eq_true (by kernel_rfl)) (by unfold Func.isWrapper; first | (rw [if_pos (by decide +kernel)]; kernel_rfl) | (rw [if_neg (by decide +kernel)]; exact ⟨rfl, rfl⟩))
    (fun os started H enc _ => lifted os started H enc)
theorem proved : Rows.WeighPicksSaid := over
end Go.Proofs.Ytmjogckeaaaicaa.weighPicks
