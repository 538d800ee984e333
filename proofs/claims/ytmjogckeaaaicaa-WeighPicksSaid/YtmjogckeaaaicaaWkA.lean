/- Signbit, walked by hand; IsNaN; which float is ahead. -/
import Derived.Test.YtmjogckeaaaicaaFloB
import Derived.Test.YtmjogckeaaaicaaProg
set_option linter.unusedVariables false
set_option linter.unusedSimpArgs false
namespace Go.Eng
open Go Go.Proofs Go.RowKit

set_option maxHeartbeats 2000000 in
set_option maxRecDepth 100000 in
theorem bits_run (b : Nat) (w : World) : (callFunc 56 #[.float .f64 b]).run Try.prog w = .ok (.value (.int .u64 b)) w := by
  rw [run_callFunc_extern (e := Extern.MathFloatBits.float64bits) Try.func56 (by kernel_rfl) (by kernel_rfl) (by kernel_rfl) (by kernel_rfl)]
  rfl
theorem sg_is {b : Nat} (h : b < 2 ^ 64) : decide (wrap64 (b : Int) < 0) = fNeg b := by
  unfold wrap64 fNeg
  have h : b < 18446744073709551616 := h
  by_cases e : b < 9223372036854775808
  · rw [show b / 9223372036854775808 = 0 by omega, decide_eq_false (by omega)]; rfl
  · rw [show b / 9223372036854775808 = 1 by omega, decide_eq_true (by omega)]; rfl
set_option maxHeartbeats 2000000 in
set_option maxRecDepth 100000 in
theorem signbit_calls (b : Nat) (w : World) : Calls Try.prog 43 #[.float .f64 b] w fun e w' => e = .returned (.bool (decide (wrap64 (b : Int) < 0))) ∧ w' = w := by
  have hd := bits_run b w
  refine calls_of_wp Try.func43 rfl ?_
  simp only [Try.ntmps43, List.size_toArray, List.length_cons, List.length_nil, Nat.reduceAdd, Nat.reduceSub, Array.replicate_succ, Array.replicate_zero, List.push_toArray, List.append_toArray, List.nil_append, List.cons_append]
  go_wp2
  exact bodyPost_ret (results_tmp rfl _ _ _) rfl ⟨rfl, rfl⟩
theorem meets_pure {P : Program} {f : FuncId} {fn : Func} {G : Type} {args : G → List RV} {pre : G → Prop} {res : G → RV} (hf : P.funcs[f]? = some fn) (hb : fn.body.isSome = true) (hname : (fn.name == "runtime.NumGoroutine") = false)
    (vs : G → Array Value) (v : G → Value) (ha : ∀ γ O w hs vals, ArgsRel O w hs (args γ) vals → vals = vs γ) (hr : ∀ γ, pre γ → ∀ O w hs, RVRel O w (res γ) hs (v γ))
    (hc : ∀ γ, pre γ → ∀ w, Calls P f (vs γ) w fun e w' => e = .returned (v γ) ∧ w' = w) : Meets P f (spec G args pre res) where
  pn := fun _ _ _ h => by cases h
  qn := fun _ _ _ h => by cases h
  full := fun _ j h => by cases h
  kp := fun _ _ _ h => by cases h
  body := ⟨fn, hf, hb, hname⟩
  iter := fun γ n item h => by cases h
  run := fun γ _ hp F hs w vals hnone hargs hrep => by
    rw [ha γ _ _ _ _ hargs]
    refine (hc γ hp w).mono fun e w' ⟨he, hw⟩ => ?_
    subst he hw
    exact ⟨_, rfl, hs, hr γ hp _ _ _, hrep, fun _ _ h => h, fun _ _ => rfl, Fr.refl _ _, fun x hx => .inl hx⟩
abbrev Cell.f (x : Nat) : Cell := .v (.float .f64 x)
def sSgn : FSpec := spec Nat (fun b => [.c (Cell.f b)]) (fun b => b < 2 ^ 64) fun b => .b (fNeg b)
theorem sgn_ok : Meets Try.prog 43 sSgn :=
  meets_pure Try.func43 rfl rfl (fun b => #[.float .f64 b]) (fun b => .bool (fNeg b))
    (fun γ O w hs vals h => by
      obtain ⟨h1, h2⟩ := h
      have h1 : vals.size = 1 := h1
      refine Array.ext (by simpa using h1) fun i hi hi' => ?_
      have : i = 0 := by omega
      subst this
      exact (h2 0 _ vals[0] rfl (Array.getElem?_eq_getElem (by omega))).1)
    (fun γ _ O w hs => ⟨rfl, rfl⟩)
    fun γ hp w => by
      have := signbit_calls γ w
      rw [sg_is hp] at this
      exact this
def sNan : FSpec := spec Nat (fun a => [.c (Cell.f a)]) (fun _ => True) fun a => .b (fNan a)
set_option maxHeartbeats 4000000 in
set_option maxRecDepth 100000 in
theorem nan_ok : Meets Try.prog 42 sNan := by
  refine meets_plain (gok_nil _) rfl [] (fn := Try.f42) rfl rfl rfl (by decide) fun a _ => ?_
  repeat' (first | (intro h; first | exact Bool.noConfusion h | (guard_hyp h : true = true; clear h) | (guard_hyp h : false = false; clear h) | (simp only [decide_eq_true_eq, decide_eq_false_iff_not, beq_iff_eq, beq_eq_false_iff_ne, bne_iff_ne, bne_eq_false_iff_eq, Bool.not_eq_true', Bool.not_eq_false', ne_eq, Classical.not_not, Bool.not_true, Bool.not_false, beqL_iff, beqL_ff, List.cons.injEq, and_true] at h) | skip) | ((conv => whnf) <;> (first | exact True.intro | apply br_rec | apply And.intro | apply EntP.k0 | apply EntP.k1 | apply EntP.k2 | apply EntP.k3 | apply EntP.k4 | apply EntP.k5 | apply EntP.k6 | apply DrawP.go | (apply AnyP.mk; kernel_rfl) | (refine AggP.go 2 rfl (by kernel_rfl) ?_) | (refine AggP.go 1 rfl (by kernel_rfl) ?_) | (refine AggP.go 3 rfl (by kernel_rfl) ?_) | (refine AggP.go 4 rfl (by kernel_rfl) ?_) | (refine AggP.go 5 rfl (by kernel_rfl) ?_) | (refine AggP.go 8 rfl (by kernel_rfl) ?_) | (refine AggP.go 11 rfl (by kernel_rfl) ?_) | apply CallP.own0 | apply CallP.own1 | apply CallP.own2 | apply CallP.own3 | apply CallP.nb | apply CutE.go0 | apply CutE.go7 | apply CutE.go6 | apply CutE.go5 | apply CutE.go4 | apply CutE.go3 | apply CutE.go2 | apply CutE.go1 | apply RoP.id | apply wrapS | (with_reducible exact lenNil) | apply Eq.refl)) | ((first | (with_reducible show rvEq _ _ _ _) | (with_reducible show svEq _ _ _ _) | (with_reducible show cellEq _ _ _ _) | (with_reducible show blkEq _ _ _)); conv => whnf))
  show fNan a = !fEq a a
  rw [fEq_is]
  cases fNan a <;> simp
/-- Which float is ahead. -/
def lessF (a b : Nat) : Bool := if fNan a = true ∨ fNan b = true then !fNan a && fNan b else if skey a = skey b then fNeg a && !fNeg b else decide (skey a < skey b)
def Wk1 : List (Nat × FSpec) := [(42, sNan), (43, sSgn)]
theorem Wk1_ok : GOK Try.prog (tab Wk1) := gok_cons nan_ok (gok_cons sgn_ok (gok_nil _))
def sLess : FSpec := spec (Nat × Nat) (fun (a, b) => [.c (Cell.f a), .c (Cell.f b)]) (fun (a, b) => a < 2 ^ 64 ∧ b < 2 ^ 64) fun (a, b) => .b (lessF a b)
set_option maxHeartbeats 4000000 in
set_option maxRecDepth 100000 in
theorem less_ok : Meets Try.prog 15 sLess := by
  refine meets_plain Wk1_ok rfl [] (fn := Try.f15) rfl rfl rfl (by decide) fun ⟨a, b⟩ h => ?_
  have ha : a < 2 ^ 64 := h.1
  have hb : b < 2 ^ 64 := h.2
  clear h
  repeat' (first | (intro h; first | exact Bool.noConfusion h | (guard_hyp h : true = true; clear h) | (guard_hyp h : false = false; clear h) | (simp only [decide_eq_true_eq, decide_eq_false_iff_not, beq_iff_eq, beq_eq_false_iff_ne, bne_iff_ne, bne_eq_false_iff_eq, Bool.not_eq_true', Bool.not_eq_false', ne_eq, Classical.not_not, Bool.not_true, Bool.not_false, beqL_iff, beqL_ff, List.cons.injEq, and_true] at h) | skip) | ((conv => whnf) <;> (first | exact True.intro | apply br_rec | apply And.intro | apply EntP.k0 | apply EntP.k1 | apply EntP.k2 | apply EntP.k3 | apply EntP.k4 | apply EntP.k5 | apply EntP.k6 | apply DrawP.go | (apply AnyP.mk; kernel_rfl) | (refine AggP.go 2 rfl (by kernel_rfl) ?_) | (refine AggP.go 1 rfl (by kernel_rfl) ?_) | (refine AggP.go 3 rfl (by kernel_rfl) ?_) | (refine AggP.go 4 rfl (by kernel_rfl) ?_) | (refine AggP.go 5 rfl (by kernel_rfl) ?_) | (refine AggP.go 8 rfl (by kernel_rfl) ?_) | (refine AggP.go 11 rfl (by kernel_rfl) ?_) | apply CallP.own0 | apply CallP.own1 | apply CallP.own2 | apply CallP.own3 | apply CallP.nb | apply CutE.go0 | apply CutE.go7 | apply CutE.go6 | apply CutE.go5 | apply CutE.go4 | apply CutE.go3 | apply CutE.go2 | apply CutE.go1 | apply RoP.id | apply wrapS | (with_reducible exact lenNil) | apply Eq.refl)) | ((first | (with_reducible show rvEq _ _ _ _) | (with_reducible show svEq _ _ _ _) | (with_reducible show cellEq _ _ _ _) | (with_reducible show blkEq _ _ _)); conv => whnf))
  all_goals first
    | exact ha
    | exact hb
    | (unfold lessF; simp_all [fEq_is, fLt_is]; done)
    | trace_state
end Go.Eng
