/- StepBroad holds for every input that can be read: no condition but those of the statement itself. -/
import Derived.Test.YtgahcoccodhkmaaGreatRows
import Derived.Test.YtgahcoccodhkmaaGreatEngC
import Derived.Test.YtgahcoccodhkmaaGreatStOb
import Derived.Test.YtgahcoccodhkmaaGreatStLd
import Derived.WalkKit
import Derived.ProofKit
import Derived.OpenShut
import Derived.ChangeOld
import Derived.Below
import Derived.SizedLaws
set_option linter.unusedVariables false
set_option linter.unusedSimpArgs false
namespace Go.Proofs.YtgahcoccodhkmaaGreat.stepBroad
open Go.ChangeShapes Go.WideShapes Go.ChangeAt Go.RowKit
set_option linter.unusedVariables false
theorem laidOut : laidOutB Tryz.prog = true := by kernel_rfl
theorem own : ownKnob Tryz.prog.godebug = none := by kernel_rfl
set_option maxRecDepth 100000 in
theorem lifted (os : Os) (started : os.Started) (H : Type) (enc : TypeId × Value → H) :
    ReturnsInHanded {} Tryz.checked os 6 .any (Rows.stepBroadSpec.pre6 enc Tryz.prog Tryz.f6 Rows.stepBroadRow.domain false) (Rows.stepBroadSpec.post enc Tryz.prog Tryz.f6 false true false false) := by
  refine returnsInHanded_of_change_sized (C := Tryz.checked) own started (by kernel_rfl) Tryz.func6
    (ChangeSpec.witness6 (enc := enc) (C := Tryz.checked) false ⟨#[], #[.slice none 0 0, .slice none 0 0, .slice none 0 0, .slice none 0 0, .int .i64 0, .slice none 0 0, .slice none 0 0, .int .i64 0], []⟩ 8 (by kernel_rfl) (by kernel_rfl) (by kernel_rfl) (by kernel_rfl)) ?_
  intro W base args ds gs before hval0 hW hcnd hsz0 _
  have hval : ∀ (j : Nat) t v, Tryz.f6.params[j]? = some t → args[j]? = some v → Value.okWide Tryz.prog W .any base t v := hval0
  have hW' := hW
  obtain ⟨p, q, hA0, hV, rfl, hfz, hnd⟩ := hW
  have hA : DataW.TrodAll enc Tryz.prog W 0 (fun _ => true) true Tryz.f6.params.toList args.toList ds p := hA0
  rw [Tryz.params6] at hA hval
  obtain ⟨v0, vs0, d0, ds0, p0, q0, hargs, rfl, rfl, h0, r0'⟩ := trodAll_cons hA
  obtain ⟨v1, vs1, d1, ds1, p1, q1, rfl, rfl, rfl, h1, r1'⟩ := trodAll_cons r0'
  obtain ⟨v2, vs2, d2, ds2, p2, q2, rfl, rfl, rfl, h2, r2'⟩ := trodAll_cons r1'
  obtain ⟨v3, vs3, d3, ds3, p3, q3, rfl, rfl, rfl, h3, r3'⟩ := trodAll_cons r2'
  obtain ⟨v4, vs4, d4, ds4, p4, q4, rfl, rfl, rfl, h4, r4'⟩ := trodAll_cons r3'
  obtain ⟨v5, vs5, d5, ds5, p5, q5, rfl, rfl, rfl, h5, r5'⟩ := trodAll_cons r4'
  obtain ⟨v6, vs6, d6, ds6, p6, q6, rfl, rfl, rfl, h6, r6'⟩ := trodAll_cons r5'
  obtain ⟨v7, vs7, d7, ds7, p7, q7, rfl, rfl, rfl, h7, r7'⟩ := trodAll_cons r6'
  obtain ⟨rfl, rfl, rfl⟩ := trodAll_nil r7'
  obtain rfl : args = #[v0, v1, v2, v3, v4, v5, v6, v7] := by cases args; simp_all
  obtain ⟨rfl, rfl⟩ := trodVars_none hV
  have k0 := h0
  have lt0 : ∀ x ∈ p0, x.block < W.heap.size := by obtain ⟨m, hm⟩ := k0; exact DataW.trod_lt m _ _ _ hm
  have k1 := h1
  have lt1 : ∀ x ∈ p1, x.block < W.heap.size := by obtain ⟨m, hm⟩ := k1; exact DataW.trod_lt m _ _ _ hm
  have k2 := h2
  have lt2 : ∀ x ∈ p2, x.block < W.heap.size := by obtain ⟨m, hm⟩ := k2; exact DataW.trod_lt m _ _ _ hm
  have k3 := h3
  have lt3 : ∀ x ∈ p3, x.block < W.heap.size := by obtain ⟨m, hm⟩ := k3; exact DataW.trod_lt m _ _ _ hm
  have k4 := h4
  have lt4 : ∀ x ∈ p4, x.block < W.heap.size := by obtain ⟨m, hm⟩ := k4; exact DataW.trod_lt m _ _ _ hm
  have k5 := h5
  have lt5 : ∀ x ∈ p5, x.block < W.heap.size := by obtain ⟨m, hm⟩ := k5; exact DataW.trod_lt m _ _ _ hm
  have k6 := h6
  have lt6 : ∀ x ∈ p6, x.block < W.heap.size := by obtain ⟨m, hm⟩ := k6; exact DataW.trod_lt m _ _ _ hm
  have k7 := h7
  have lt7 : ∀ x ∈ p7, x.block < W.heap.size := by obtain ⟨m, hm⟩ := k7; exact DataW.trod_lt m _ _ _ hm
  obtain ⟨za0, zl0, zc0, rfl⟩ := okWide_slice Tryz.underlying22 (hval 0 22 _ rfl rfl)
  obtain ⟨x0, ok0, r0⟩ := Go.Eng.Opens.arg1 (Go.Eng.Opens.slice Tryz.underlying22 (by kernel_rfl) (by decide) Go.Eng.opIns) (fun _ => rfl) rfl k0
  obtain ⟨za1, zl1, zc1, rfl⟩ := okWide_slice Tryz.underlying23 (hval 1 23 _ rfl rfl)
  obtain ⟨x1, ok1, r1⟩ := Go.Eng.Opens.arg1 (Go.Eng.Opens.slice Tryz.underlying23 (by kernel_rfl) (by decide) (Go.Eng.Opens.int Tryz.underlying3 (by kernel_rfl))) (fun _ => rfl) rfl k1
  obtain ⟨za2, zl2, zc2, rfl⟩ := okWide_slice Tryz.underlying23 (hval 2 23 _ rfl rfl)
  obtain ⟨x2, ok2, r2⟩ := Go.Eng.Opens.arg1 (Go.Eng.Opens.slice Tryz.underlying23 (by kernel_rfl) (by decide) (Go.Eng.Opens.int Tryz.underlying3 (by kernel_rfl))) (fun _ => rfl) rfl k2
  obtain ⟨za3, zl3, zc3, rfl⟩ := okWide_slice Tryz.underlying23 (hval 3 23 _ rfl rfl)
  obtain ⟨x3, ok3, r3⟩ := Go.Eng.Opens.arg1 (Go.Eng.Opens.slice Tryz.underlying23 (by kernel_rfl) (by decide) (Go.Eng.Opens.int Tryz.underlying3 (by kernel_rfl))) (fun _ => rfl) rfl k3
  obtain ⟨z4, rfl⟩ := okWide_int Tryz.underlying3 (hval 4 3 _ rfl rfl)
  obtain ⟨x4, ok4, r4⟩ := Go.Eng.Opens.arg1 (c := fun a => Go.Eng.Cell.i a) (Go.Eng.Opens.int Tryz.underlying3 (by kernel_rfl)) (fun _ => rfl) rfl k4
  obtain ⟨za5, zl5, zc5, rfl⟩ := okWide_slice Tryz.underlying24 (hval 5 24 _ rfl rfl)
  obtain ⟨x5, ok5, r5⟩ := Go.Eng.Opens.arg1 (Go.Eng.Opens.slice Tryz.underlying24 (by kernel_rfl) (by decide) Go.Eng.opAct) (fun _ => rfl) rfl k5
  obtain ⟨za6, zl6, zc6, rfl⟩ := okWide_slice Tryz.underlying24 (hval 6 24 _ rfl rfl)
  obtain ⟨x6, ok6, r6⟩ := Go.Eng.Opens.arg1 (Go.Eng.Opens.slice Tryz.underlying24 (by kernel_rfl) (by decide) Go.Eng.opAct) (fun _ => rfl) rfl k6
  obtain ⟨z7, rfl⟩ := okWide_int Tryz.underlying3 (hval 7 3 _ rfl rfl)
  obtain ⟨x7, ok7, r7⟩ := Go.Eng.Opens.arg1 (c := fun a => Go.Eng.Cell.i a) (Go.Eng.Opens.int Tryz.underlying3 (by kernel_rfl)) (fun _ => rfl) rfl k7
  refine (Go.Eng.calls_true Go.Eng.lbroad_ok (x0, x1, x2, x3, x4, x5, x6, x7) trivial (Go.Eng.args8 r0 r1 r2 r3 r4 r5 r6 r7)).mono fun e W' ⟨he, bel⟩ => ?_
  subst he
  exact ⟨_, rfl, _, _, _, [], _, [], hW', trodAll_mk1 (shut_bool Tryz.underlying4 _), (trodAll_cons_mk (Below.trod laidOut (by kernel_rfl) (of_decide_eq_true (by kernel_rfl)) k0 bel lt0) (trodAll_cons_mk (Below.trod laidOut (by kernel_rfl) (of_decide_eq_true (by kernel_rfl)) k1 bel lt1) (trodAll_cons_mk (Below.trod laidOut (by kernel_rfl) (of_decide_eq_true (by kernel_rfl)) k2 bel lt2) (trodAll_cons_mk (Below.trod laidOut (by kernel_rfl) (of_decide_eq_true (by kernel_rfl)) k3 bel lt3) (trodAll_cons_mk (Below.trod laidOut (by kernel_rfl) (of_decide_eq_true (by kernel_rfl)) k4 bel lt4) (trodAll_cons_mk (Below.trod laidOut (by kernel_rfl) (of_decide_eq_true (by kernel_rfl)) k5 bel lt5) (trodAll_cons_mk (Below.trod laidOut (by kernel_rfl) (of_decide_eq_true (by kernel_rfl)) k6 bel lt6) (trodAll_cons_mk (Below.trod laidOut (by kernel_rfl) (of_decide_eq_true (by kernel_rfl)) k7 bel lt7) trodAll_mk0)))))))), rfl, bel.frame _, fun h => by cases h⟩
theorem over : Rows.stepBroadRow.holds Tryz.pinned (OpenSpec.ofChange Rows.stepBroadSpec) :=
  OpenClaim.holds_of_wide 6 Tryz.f6 rfl rfl rfl rfl rfl rfl rfl ⟨rfl, rfl, rfl, rfl, rfl⟩ rfl rfl rfl rfl rfl (by kernel_rfl) Tryz.func6 (by kernel_rfl)
    (of_decide_eq_true (by kernel_rfl)) (by unfold Func.isWrapper; first | (rw [if_pos (by decide +kernel)]; kernel_rfl) | (rw [if_neg (by decide +kernel)]; exact ⟨rfl, rfl⟩))
    (fun os started H enc _ => lifted os started H enc)
theorem proved : Rows.StepBroadSaid := over
end Go.Proofs.YtgahcoccodhkmaaGreat.stepBroad
