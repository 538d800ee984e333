/- The machine's reference, more. -/
import Derived.Test.YtpcimaemigchiaaTsoC
set_option linter.unusedVariables false
set_option linter.unusedSimpArgs false
namespace Go.Eng
open Go Go.Proofs

def R1 : List (Nat × FSpec) := (73, sRWith) :: (21, sRNewest) :: (25, sRPush) :: (26, sRRest) :: (24, sRSame) :: (48, sTsoRight) :: (51, sSizes) :: M4
theorem R1_ok : GOK Try.prog (tab R1) := gok_cons rwith_ok (gok_cons rnewest_ok (gok_cons rpush_ok (gok_cons rrest_ok (gok_cons rsame_ok (gok_cons rtsoRight_ok (gok_cons rsizes_ok M4_ok))))))

theorem hasF_mem {ws ts : List Int} {d : Int} {l : List (List Put)} {i : Int} (h : hasF ws ts d l i = true) : memR ws ts = true := (tsoR_iff.1 (hasF_iff.1 h).1).1
theorem hasF_sz {ws ts : List Int} {d : Int} {l : List (List Put)} {i : Int} (h : hasF ws ts d l i = true) : 0 ≤ d ∧ d ≤ 8 ∧ l.length ≤ 8 := by
  have := (tsoR_iff.1 (hasF_iff.1 h).1).2.1
  simp only [sizesF, decide_eq_true_eq] at this
  omega
theorem hasF_len {ws ts : List Int} {d : Int} {l : List (List Put)} {i : Int} (h : hasF ws ts d l i = true) : ((l.getD i.toNat default).length : Int) ≤ d := by
  obtain ⟨h1, h2, h3⟩ := hasF_iff.1 h
  have := (tsoR_iff.1 h1).2.2 i.toNat (by omega)
  simp only [okB, Bool.and_eq_true, decide_eq_true_eq] at this
  exact this.1
theorem hasF_ws {ws ts : List Int} {d : Int} {l : List (List Put)} {i : Int} (h : hasF ws ts d l i = true) : ws.length ≤ 160 ∧ ts.length = ws.length := by
  have := memR_iff.1 (hasF_mem h)
  exact ⟨this.2.1, this.2.2.1⟩

def sRTLoad : FSpec := spec (List Int × List Int × Int × List (List Put) × Int × Int) (fun (ws, ts, d, l, i, a) => [.agg (tsoC ws ts d l), .i i, .i a]) (fun (ws, ts, d, l, i, _) => hasF ws ts d l i = true) fun (ws, ts, d, l, i, a) => .tup [.c (.i (loadT (ws, ts, d, l) i a).1), .c (.i (loadT (ws, ts, d, l) i a).2)]
set_option maxHeartbeats 4000000 in
set_option maxRecDepth 100000 in
theorem rtload_ok : Meets Try.prog 56 sRTLoad := by
  refine meets_plain R1_ok rfl [] (fn := Try.f56) rfl rfl rfl (by decide) fun ⟨ws, ts, d, l, i, a⟩ hh => ?_
  have hh : hasF ws ts d l i = true := hh
  have h2 := (hasF_iff.1 hh).2
  have h3 := hasF_len hh
  have h4 := hasF_sz hh
  repeat' (first | (intro h; first | exact Bool.noConfusion h | (guard_hyp h : true = true; clear h) | (guard_hyp h : false = false; clear h) | (simp only [decide_eq_true_eq, decide_eq_false_iff_not, beq_iff_eq, beq_eq_false_iff_ne, bne_iff_ne, bne_eq_false_iff_eq, Bool.not_eq_true', Bool.not_eq_false', ne_eq, Classical.not_not, Bool.not_true, Bool.not_false, beqL_iff, beqL_ff, List.cons.injEq, and_true] at h) | skip) | ((conv => whnf) <;> (first | exact True.intro | apply br_rec | apply And.intro | apply EntP.k0 | apply EntP.k1 | apply EntP.k2 | apply EntP.k3 | apply EntP.k4 | apply EntP.k5 | apply EntP.k6 | apply DrawP.go | (apply AnyP.mk; kernel_rfl) | (refine AggP.go 2 rfl (by kernel_rfl) ?_) | (refine AggP.go 1 rfl (by kernel_rfl) ?_) | (refine AggP.go 3 rfl (by kernel_rfl) ?_) | (refine AggP.go 4 rfl (by kernel_rfl) ?_) | (refine AggP.go 5 rfl (by kernel_rfl) ?_) | (refine AggP.go 8 rfl (by kernel_rfl) ?_) | (refine AggP.go 11 rfl (by kernel_rfl) ?_) | apply CallP.own0 | apply CallP.own1 | apply CallP.own2 | apply CallP.own3 | apply CallP.nb | apply CutE.go0 | apply CutE.go7 | apply CutE.go6 | apply CutE.go5 | apply CutE.go4 | apply CutE.go3 | apply CutE.go2 | apply CutE.go1 | apply RoP.id | apply wrapS | (with_reducible exact lenNil) | apply Eq.refl)) | ((first | (with_reducible show rvEq _ _ _ _) | (with_reducible show svEq _ _ _ _) | (with_reducible show cellEq _ _ _ _) | (with_reducible show blkEq _ _ _)); conv => whnf))
  all_goals first
    | omega
    | exact hasF_mem hh
    | (show (l.getD i.toNat default).length ≤ 1000000; omega)
    | (simp only [loadT, *, ↓reduceIte, Bool.false_eq_true]; done)
    | ((simp only [loadT, *, ↓reduceIte, Bool.false_eq_true]) <;> rfl)
    | trace_state

def sDrop : FSpec := spec TsoI (fun (ws, ts, d, l, i) => [.agg (tsoC ws ts d l), .i i]) (fun (ws, ts, d, l, i) => hasF ws ts d l i = true) fun (ws, ts, d, l, i) => .s (rTso (ws, ts, d, l.set i.toNat ((l.getD i.toNat default).drop 1)))
set_option maxHeartbeats 4000000 in
set_option maxRecDepth 100000 in
theorem drop_ok : Meets Try.prog 74 sDrop := by
  refine meets_plain R1_ok rfl [] (fn := Try.f74) rfl rfl rfl (by decide) fun ⟨ws, ts, d, l, i⟩ hh => ?_
  have hh : hasF ws ts d l i = true := hh
  have h2 := (hasF_iff.1 hh).2
  have h3 := hasF_len hh
  have h4 := hasF_sz hh
  have hw : ∀ b, withB l i b = l.set i.toNat b := fun b => by rw [withB, if_pos h2.1]
  repeat' (first | (intro h; first | exact Bool.noConfusion h | (guard_hyp h : true = true; clear h) | (guard_hyp h : false = false; clear h) | (simp only [decide_eq_true_eq, decide_eq_false_iff_not, beq_iff_eq, beq_eq_false_iff_ne, bne_iff_ne, bne_eq_false_iff_eq, Bool.not_eq_true', Bool.not_eq_false', ne_eq, Classical.not_not, Bool.not_true, Bool.not_false, beqL_iff, beqL_ff, List.cons.injEq, and_true] at h) | skip) | ((conv => whnf) <;> (first | exact True.intro | apply br_rec | apply And.intro | apply EntP.k0 | apply EntP.k1 | apply EntP.k2 | apply EntP.k3 | apply EntP.k4 | apply EntP.k5 | apply EntP.k6 | apply DrawP.go | (apply AnyP.mk; kernel_rfl) | (refine AggP.go 2 rfl (by kernel_rfl) ?_) | (refine AggP.go 1 rfl (by kernel_rfl) ?_) | (refine AggP.go 3 rfl (by kernel_rfl) ?_) | (refine AggP.go 4 rfl (by kernel_rfl) ?_) | (refine AggP.go 5 rfl (by kernel_rfl) ?_) | (refine AggP.go 8 rfl (by kernel_rfl) ?_) | (refine AggP.go 11 rfl (by kernel_rfl) ?_) | apply CallP.own0 | apply CallP.own1 | apply CallP.own2 | apply CallP.own3 | apply CallP.nb | apply CutE.go0 | apply CutE.go7 | apply CutE.go6 | apply CutE.go5 | apply CutE.go4 | apply CutE.go3 | apply CutE.go2 | apply CutE.go1 | apply RoP.id | apply wrapS | (with_reducible exact lenNil) | apply Eq.refl)) | ((first | (with_reducible show rvEq _ _ _ _) | (with_reducible show svEq _ _ _ _) | (with_reducible show cellEq _ _ _ _) | (with_reducible show blkEq _ _ _)); conv => whnf))
  all_goals try simp only [hw] at *
  all_goals first
    | omega
    | rfl
    | (show (l.getD i.toNat default).length ≤ 1000000; omega)
    | (show l.length ≤ 1000000; omega)
    | trace_state

theorem push_here {b : List Put} {d : Int} {p : Put} (h : (b.length : Int) ≤ d) (h0 : 0 ≤ d ∧ d ≤ 8) : pushF b d p = if (b.length : Int) = d then ([], 7) else (b ++ [p], 0) := by
  rw [pushF, if_neg (by omega)]
def sRTStore : FSpec := spec (List Int × List Int × Int × List (List Put) × Int × Int × Int) (fun (ws, ts, d, l, i, a, v) => [.agg (tsoC ws ts d l), .i i, .i a, .i v]) (fun (ws, ts, d, l, i, _) => hasF ws ts d l i = true) fun (ws, ts, d, l, i, a, v) => .tup [rTso (storeT (ws, ts, d, l) i a v).1, .c (.i (storeT (ws, ts, d, l) i a v).2)]
set_option maxHeartbeats 4000000 in
set_option maxRecDepth 100000 in
theorem rtstore_ok : Meets Try.prog 57 sRTStore := by
  refine meets_plain R1_ok rfl [] (fn := Try.f57) rfl rfl rfl (by decide) fun ⟨ws, ts, d, l, i, a, v⟩ hh => ?_
  have hh : hasF ws ts d l i = true := hh
  have h2 := (hasF_iff.1 hh).2
  have h3 := hasF_len hh
  have h4 := hasF_sz hh
  have hw : ∀ b, withB l i b = l.set i.toNat b := fun b => by rw [withB, if_pos h2.1]
  have hp := push_here (p := (a, v)) h3 ⟨h4.1, h4.2.1⟩
  repeat' (first | (intro h; first | exact Bool.noConfusion h | (guard_hyp h : true = true; clear h) | (guard_hyp h : false = false; clear h) | (simp only [decide_eq_true_eq, decide_eq_false_iff_not, beq_iff_eq, beq_eq_false_iff_ne, bne_iff_ne, bne_eq_false_iff_eq, Bool.not_eq_true', Bool.not_eq_false', ne_eq, Classical.not_not, Bool.not_true, Bool.not_false, beqL_iff, beqL_ff, List.cons.injEq, and_true] at h) | skip) | ((conv => whnf) <;> (first | exact True.intro | apply br_rec | apply And.intro | apply EntP.k0 | apply EntP.k1 | apply EntP.k2 | apply EntP.k3 | apply EntP.k4 | apply EntP.k5 | apply EntP.k6 | apply DrawP.go | (apply AnyP.mk; kernel_rfl) | (refine AggP.go 2 rfl (by kernel_rfl) ?_) | (refine AggP.go 1 rfl (by kernel_rfl) ?_) | (refine AggP.go 3 rfl (by kernel_rfl) ?_) | (refine AggP.go 4 rfl (by kernel_rfl) ?_) | (refine AggP.go 5 rfl (by kernel_rfl) ?_) | (refine AggP.go 8 rfl (by kernel_rfl) ?_) | (refine AggP.go 11 rfl (by kernel_rfl) ?_) | apply CallP.own0 | apply CallP.own1 | apply CallP.own2 | apply CallP.own3 | apply CallP.nb | apply CutE.go0 | apply CutE.go7 | apply CutE.go6 | apply CutE.go5 | apply CutE.go4 | apply CutE.go3 | apply CutE.go2 | apply CutE.go1 | apply RoP.id | apply wrapS | (with_reducible exact lenNil) | apply Eq.refl)) | ((first | (with_reducible show rvEq _ _ _ _) | (with_reducible show svEq _ _ _ _) | (with_reducible show cellEq _ _ _ _) | (with_reducible show blkEq _ _ _)); conv => whnf))
  all_goals try simp only [hw] at *
  all_goals first
    | omega
    | rfl
    | exact hasF_mem hh
    | (show (l.getD i.toNat default).length ≤ 1000000; omega)
    | (show l.length ≤ 1000000; omega)
    | (simp only [storeT, *, ↓reduceIte, Bool.false_eq_true]; done)
    | ((simp only [storeT, *, ↓reduceIte, Bool.false_eq_true]) <;> rfl)
    | (have hd : d = 0 := (by assumption)
       subst hd
       first
        | (simp only [storeT, *, ↓reduceIte, Bool.false_eq_true]; done)
        | ((simp only [storeT, *, ↓reduceIte, Bool.false_eq_true]) <;> rfl))
    | trace_state
end Go.Eng
