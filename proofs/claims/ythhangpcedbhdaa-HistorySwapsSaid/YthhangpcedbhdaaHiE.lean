/- Whether two histories are alike, walked. -/
import Derived.Test.YthhangpcedbhdaaHiD
set_option linter.unusedVariables false
set_option linter.unusedSimpArgs false
namespace Go.Eng
open Go Go.Proofs

def bareF (s : Sp) : Sp := { s with fr := 0, to := if 0 < s.to then 0 else s.to }
theorem CutE.goSp {p : Sp → Prop} {a0 a1 a2 a3 a4 a5 a6 a7 a8 a9 : Int} (h : p ⟨a0, a1, a2, a3, a4, a5, a6, a7, a8, a9⟩) : CutE Sp p := ⟨⟨_, h⟩⟩
def sBare : FSpec := spec Sp (fun s => [.agg (encSp s)]) (fun _ => True) fun s => .agg (encSp (bareF s))
set_option maxHeartbeats 4000000 in
set_option maxRecDepth 100000 in
theorem bare_ok : Meets Try.prog 48 sBare := by
  refine meets_plain (gok_nil _) rfl [] (fn := Try.f48) rfl rfl rfl (by decide) fun ⟨a0, a1, a2, a3, a4, a5, a6, a7, a8, a9⟩ _ => ?_
  repeat' (first | (intro h; first | exact Bool.noConfusion h | (guard_hyp h : true = true; clear h) | (guard_hyp h : false = false; clear h) | (simp only [decide_eq_true_eq, decide_eq_false_iff_not, beq_iff_eq, beq_eq_false_iff_ne, bne_iff_ne, bne_eq_false_iff_eq, Bool.not_eq_true', Bool.not_eq_false', ne_eq, Classical.not_not, Bool.not_true, Bool.not_false, beqL_iff, beqL_ff, List.cons.injEq, and_true] at h) | skip) | ((conv => whnf) <;> (first | exact True.intro | apply br_rec | apply And.intro | apply EntP.k0 | apply EntP.k1 | apply EntP.k2 | apply EntP.k3 | apply EntP.k4 | apply EntP.k5 | apply EntP.k6 | apply DrawP.go | (apply AnyP.mk; kernel_rfl) | (refine AggP.go 2 rfl (by kernel_rfl) ?_) | (refine AggP.go 1 rfl (by kernel_rfl) ?_) | (refine AggP.go 3 rfl (by kernel_rfl) ?_) | (refine AggP.go 4 rfl (by kernel_rfl) ?_) | (refine AggP.go 5 rfl (by kernel_rfl) ?_) | (refine AggP.go 8 rfl (by kernel_rfl) ?_) | (refine AggP.go 11 rfl (by kernel_rfl) ?_) | (refine AggP.go 10 rfl (by kernel_rfl) ?_) | (refine PairP.go (by kernel_rfl) ?_) | apply CallP.own0 | apply CallP.own1 | apply CallP.own2 | apply CallP.own3 | apply CallP.nb | apply CutE.go0 | apply CutE.go7 | apply CutE.go6 | apply CutE.go5 | apply CutE.go4 | apply CutE.go3 | apply CutE.go2 | apply CutE.go1 | apply RoP.id | apply wrapS | (with_reducible exact lenNil) | apply Eq.refl)) | ((first | (with_reducible show rvEq _ _ _ _) | (with_reducible show svEq _ _ _ _) | (with_reducible show cellEq _ _ _ _) | (with_reducible show blkEq _ _ _)); conv => whnf))
  all_goals first | rfl | trace_state
/-- Where a span's name is, among spans. -/
def atG (y : List Sp) : Nat → Int → Int → Option Int
  | 0 => fun _ _ => none
  | k + 1 => fun a b => if a = (y.getD k default).th ∧ b = (y.getD k default).n then some (k : Int) else atG y k a b
def atF (y : List Sp) : Int → Int → Option Int := atG y y.length
theorem atG_in (y : List Sp) : ∀ (k : Nat) (a b i : Int), atG y k a b = some i → 0 ≤ i ∧ i < k
  | 0, a, b, i, h => by cases h
  | k + 1, a, b, i, h => by
    unfold atG at h
    split at h
    · cases h; omega
    · have := atG_in y k a b i h; omega
def spL (s : Sp) : List Int := [s.th, s.n, s.c0, s.c1, s.c2, s.c3, s.why, s.rv, s.fr, s.to]
theorem beq_sp (a b : Sp) : beqL (spL a) (spL b) = decide (a = b) := by
  rw [beqL_dec]
  congr 1
  apply propext
  refine ⟨fun h => ?_, fun h => by rw [h]⟩
  cases a; cases b
  simp only [spL, List.cons.injEq] at h
  simp_all
def sp0 : Sp := ⟨0, 0, 0, 0, 0, 0, 0, 0, 0, 0⟩
def othF (y : List Sp) (s : Sp) : Sp × Bool :=
  match atF y s.th s.n with
  | none => (sp0, false)
  | some i => (y.getD i.toNat default, decide (bareF (y.getD i.toNat default) = bareF s))
def sOth : FSpec := lentSpec 3 (Sp × List Sp) (fun (s, _) => [.agg (encSp s), .c (.ptr 0 0), .c (.ptr 1 0)]) (fun (_, y) => [.row 73 [.mp 2], .row 30 [spsS y], .pmap (atF y)]) (fun (_, y) => y.length ≤ 1000)
  (fun (s, y) => .tup [.agg (encSp (othF y s).1), .c (.b (othF y s).2)]) fun (_, y) => [.row 73 [.mp 2], .row 30 [spsS y], .pmap (atF y)]
def H4 : List (Nat × FSpec) := [(48, sBare)]
theorem H4_ok : GOK Try.prog (tab H4) := gok_cons bare_ok (gok_nil _)
theorem othF_none {y : List Sp} {s : Sp} (h : atF y s.th s.n = none) : othF y s = (sp0, false) := by unfold othF; rw [h]
theorem othF_some {y : List Sp} {s : Sp} {i : Int} (h : atF y s.th s.n = some i) : othF y s = (y.getD i.toNat default, decide (bareF (y.getD i.toNat default) = bareF s)) := by unfold othF; rw [h]
set_option maxHeartbeats 4000000 in
set_option maxRecDepth 100000 in
theorem oth_ok : Meets Try.prog 47 sOth := by
  refine meets_lent 3 H4_ok rfl [] (fn := Try.f47) rfl rfl rfl (by decide) (fun _ => rfl) (fun _ => rfl) (by decide) fun ⟨⟨a0, a1, a2, a3, a4, a5, a6, a7, a8, a9⟩, y⟩ hh => ?_
  have hlen : y.length ≤ 1000 := hh
  clear hh
  cases hat : atF y a0 a1 with
  | none =>
    have e0 := othF_none (y := y) (s := ⟨a0, a1, a2, a3, a4, a5, a6, a7, a8, a9⟩) hat
    have hat : atF y a0 a1 = none := hat
    repeat' (first | (intro h; first | exact Bool.noConfusion h | (guard_hyp h : true = true; clear h) | (guard_hyp h : false = false; clear h) | (simp only [decide_eq_true_eq, decide_eq_false_iff_not, beq_iff_eq, beq_eq_false_iff_ne, bne_iff_ne, bne_eq_false_iff_eq, Bool.not_eq_true', Bool.not_eq_false', ne_eq, Classical.not_not, Bool.not_true, Bool.not_false, beqL_iff, beqL_ff, List.cons.injEq, and_true] at h) | skip) | ((conv => whnf) <;> (first | exact True.intro | apply br_rec | apply And.intro | apply EntP.k0 | apply EntP.k1 | apply EntP.k2 | apply EntP.k3 | apply EntP.k4 | apply EntP.k5 | apply EntP.k6 | apply DrawP.go | (apply AnyP.mk; kernel_rfl) | (refine AggP.go 2 rfl (by kernel_rfl) ?_) | (refine AggP.go 1 rfl (by kernel_rfl) ?_) | (refine AggP.go 3 rfl (by kernel_rfl) ?_) | (refine AggP.go 4 rfl (by kernel_rfl) ?_) | (refine AggP.go 5 rfl (by kernel_rfl) ?_) | (refine AggP.go 8 rfl (by kernel_rfl) ?_) | (refine AggP.go 11 rfl (by kernel_rfl) ?_) | (refine AggP.go 10 rfl (by kernel_rfl) ?_) | (refine PairP.go (by kernel_rfl) ?_) | apply CallP.own0 | apply CallP.own1 | apply CallP.own2 | apply CallP.own3 | apply CallP.nb | apply CutE.go0 | apply CutE.go7 | apply CutE.go6 | apply CutE.go5 | apply CutE.go4 | apply CutE.go3 | apply CutE.go2 | apply CutE.go1 | apply RoP.id | apply wrapS | (with_reducible exact lenNil) | apply Eq.refl)) | ((first | (with_reducible show rvEq _ _ _ _) | (with_reducible show svEq _ _ _ _) | (with_reducible show cellEq _ _ _ _) | (with_reducible show blkEq _ _ _)); conv => whnf))
    all_goals first
      | (rw [e0]; rfl)
      | (rw [e0]; done)
      | (exfalso; have q : (atF y a0 a1).isSome = true := h
         rw [hat] at q; exact Bool.noConfusion q)
      | trace_state
  | some i =>
    have e0 := othF_some (y := y) (s := ⟨a0, a1, a2, a3, a4, a5, a6, a7, a8, a9⟩) hat
    have hi := atG_in y y.length a0 a1 i hat
    have hw : (atF y a0 a1).getD 0 = i := by rw [hat]; rfl
    repeat' (first | (intro h; first | exact Bool.noConfusion h | (guard_hyp h : true = true; clear h) | (guard_hyp h : false = false; clear h) | (simp only [decide_eq_true_eq, decide_eq_false_iff_not, beq_iff_eq, beq_eq_false_iff_ne, bne_iff_ne, bne_eq_false_iff_eq, Bool.not_eq_true', Bool.not_eq_false', ne_eq, Classical.not_not, Bool.not_true, Bool.not_false, beqL_iff, beqL_ff, List.cons.injEq, and_true] at h) | skip) | ((conv => whnf) <;> (first | exact True.intro | apply br_rec | apply And.intro | apply CutE.goSp | apply EntP.k0 | apply EntP.k1 | apply EntP.k2 | apply EntP.k3 | apply EntP.k4 | apply EntP.k5 | apply EntP.k6 | apply DrawP.go | (apply AnyP.mk; kernel_rfl) | (refine AggP.go 2 rfl (by kernel_rfl) ?_) | (refine AggP.go 1 rfl (by kernel_rfl) ?_) | (refine AggP.go 3 rfl (by kernel_rfl) ?_) | (refine AggP.go 4 rfl (by kernel_rfl) ?_) | (refine AggP.go 5 rfl (by kernel_rfl) ?_) | (refine AggP.go 8 rfl (by kernel_rfl) ?_) | (refine AggP.go 11 rfl (by kernel_rfl) ?_) | (refine AggP.go 10 rfl (by kernel_rfl) ?_) | (refine PairP.go (by kernel_rfl) ?_) | apply CallP.own0 | apply CallP.own1 | apply CallP.own2 | apply CallP.own3 | apply CallP.nb | apply CutE.go0 | apply CutE.go7 | apply CutE.go6 | apply CutE.go5 | apply CutE.go4 | apply CutE.go3 | apply CutE.go2 | apply CutE.go1 | apply RoP.id | apply wrapS | (with_reducible exact lenNil) | apply Eq.refl)) | ((first | (with_reducible show rvEq _ _ _ _) | (with_reducible show svEq _ _ _ _) | (with_reducible show cellEq _ _ _ _) | (with_reducible show blkEq _ _ _)); conv => whnf))
    all_goals first
      | (show 0 ≤ (atF y a0 a1).getD 0; rw [hw]; exact hi.1)
      | (show (atF y a0 a1).getD 0 < y.length; rw [hw]; exact hi.2)
      | (exfalso; have q : (atF y a0 a1).isSome = false := h
         rw [hat] at q; exact Bool.noConfusion q)
      | (rw [e0]; show decide _ = beqL (spL (bareF (y.getD ((atF y a0 a1).getD 0).toNat default))) (spL (bareF ⟨a0, a1, a2, a3, a4, a5, a6, a7, a8, a9⟩)); rw [hw, beq_sp])
      | (rw [e0]; show _ = (y.getD ((atF y a0 a1).getD 0).toNat default).th; rw [hw])
      | (rw [e0]; show _ = (y.getD ((atF y a0 a1).getD 0).toNat default).n; rw [hw])
      | (rw [e0]; show _ = (y.getD ((atF y a0 a1).getD 0).toNat default).c0; rw [hw])
      | (rw [e0]; show _ = (y.getD ((atF y a0 a1).getD 0).toNat default).c1; rw [hw])
      | (rw [e0]; show _ = (y.getD ((atF y a0 a1).getD 0).toNat default).c2; rw [hw])
      | (rw [e0]; show _ = (y.getD ((atF y a0 a1).getD 0).toNat default).c3; rw [hw])
      | (rw [e0]; show _ = (y.getD ((atF y a0 a1).getD 0).toNat default).why; rw [hw])
      | (rw [e0]; show _ = (y.getD ((atF y a0 a1).getD 0).toNat default).rv; rw [hw])
      | (rw [e0]; show _ = (y.getD ((atF y a0 a1).getD 0).toNat default).fr; rw [hw])
      | (rw [e0]; show _ = (y.getD ((atF y a0 a1).getD 0).toNat default).to; rw [hw])
      | trace_state
/-- Are spans alike? -/
def alikeF (x y : List Sp) : Bool := decide (x.length = y.length) && x.all fun s => (othF y s).2 && x.all fun t => befF s t == befF (othF y s).1 (othF y t).1
end Go.Eng
