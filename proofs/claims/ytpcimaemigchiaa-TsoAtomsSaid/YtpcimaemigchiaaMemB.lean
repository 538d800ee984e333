/- Memory: the loops. -/
import Derived.Test.YtpcimaemigchiaaMem
set_option linter.unusedVariables false
set_option linter.unusedSimpArgs false
namespace Go.Eng
open Go Go.Proofs

def markE (tag t : Int) : Int := if tag = 1 then (if t = 1 then 6 else 0) else whyF t
def markN (tag : Int) : List Int → Nat → Nat → List Int × Int
  | ts, _, 0 => (ts, 0)
  | ts, p, n + 1 => if markE tag (ts.getD p default) = 0 then markN tag (ts.set p tag) (p + 1) n else ([], markE tag (ts.getD p default))
def markF (ws ts : List Int) (a n tag : Int) : (List Int × List Int) × Int :=
  if memR ws ts = true ∧ (tag = 1 ∨ tag = 2) then (if n < 1 ∨ a < 0 ∨ ws.length ≤ a ∨ ws.length - a < n then (([], []), 3) else
    if (markN tag ts a.toNat n.toNat).2 = 0 then ((ws, (markN tag ts a.toNat n.toNat).1), 0) else (([], []), (markN tag ts a.toNat n.toNat).2)) else (([], []), 1)
def withF (l : List Int) (a v : Int) : List Int := if 0 ≤ a then l.set a.toNat v else l
def sameF (a b c d : List Int) : Bool := decide (a = c ∧ b = d)

def sInts : FSpec := spec (List Int × List Int) (fun (a, b) => [.c (intsS a), .c (intsS b)]) (fun (a, b) => a.length ≤ 1000000) fun (a, b) => .b (decide (a = b))
def sWith : FSpec := spec (List Int × Int × Int) (fun (l, a, v) => [.c (intsS l), .i a, .i v]) (fun (l, _, _) => l.length ≤ 1000000) fun (l, a, v) => .c (intsS (withF l a v))
def sRLoad : FSpec := spec (List Int × List Int × Int) (fun (ws, ts, a) => [.agg (memC ws ts), .i a]) (fun (ws, ts, a) => memR ws ts = true) fun (ws, ts, a) => .tup [.c (.i (loadF ws ts a).1), .c (.i (loadF ws ts a).2)]
def sRStore : FSpec := spec (List Int × List Int × Int × Int) (fun (ws, ts, a, v) => [.agg (memC ws ts), .i a, .i v]) (fun (ws, ts, a, v) => memR ws ts = true) fun (ws, ts, a, v) => rMemE (storeF ws ts a v)
def sMark : FSpec := spec (List Int × List Int × Int × Int × Int) (fun (ws, ts, a, n, tag) => [.agg (memC ws ts), .i a, .i n, .i tag]) (fun _ => True) fun (ws, ts, a, n, tag) => rMemE (markF ws ts a n tag)
def sRMark : FSpec := spec (List Int × List Int × Int × Int × Int) (fun (ws, ts, a, n, tag) => [.agg (memC ws ts), .i a, .i n, .i tag]) (fun (ws, ts, a, n, tag) => memR ws ts = true ∧ (tag = 1 ∨ tag = 2)) fun (ws, ts, a, n, tag) => rMemE (markF ws ts a n tag)
def cntF (t : Int) (l : List Int) : Int := (l.count t : Nat)
def cntM (ws ts : List Int) (t : Int) : Int := if memR ws ts = true then cntF t ts else 0
def sCount : FSpec := spec (List Int × List Int) (fun (ws, ts) => [.agg (memC ws ts)]) (fun _ => True) fun (ws, ts) => .tup [.agg [.i (cntM ws ts 0), .i (cntM ws ts 1), .i (cntM ws ts 2)], .c (.i (if memR ws ts = true then 0 else 1))]
def sRCount : FSpec := spec (List Int × List Int × Int) (fun (ws, ts, t) => [.agg (memC ws ts), .i t]) (fun (ws, ts, t) => ts.length ≤ 1000000) fun (ws, ts, t) => .i (cntF t ts)
def sRNew : FSpec := spec Int (fun n => [.i n]) (fun n => 1 ≤ n ∧ n ≤ 160) fun n => .s (rMem (newF n).1)
def sSame : FSpec := spec (List Int × List Int × List Int × List Int) (fun (a, b, c, d) => [.agg (memC a b), .agg (memC c d)]) (fun (a, b, c, d) => a.length ≤ 1000000 ∧ b.length ≤ 1000000) fun (a, b, c, d) => .b (sameF a b c d)
def sMem : FSpec := spec (List Int × List Int) (fun (a, b) => [.c (intsS a), .c (intsS b)]) (fun _ => True) fun (a, b) => .s (rMem (a.take 170, b.take 170))

theorem getD_ne {a b : List Int} (h : a.length = b.length) {i : Nat} (hi : i < a.length) (hne : ¬ a.getD i default = b.getD i default) : decide (a = b) = false := by
  simp only [decide_eq_false_iff_not]
  rintro rfl
  exact hne rfl
theorem eq_of_up {a b : List Int} (h : a.length = b.length) {k : Nat} (hk : a.length ≤ k) (hu : Up k fun i => a.getD i default = b.getD i default) : decide (a = b) = true := by
  simp only [decide_eq_true_eq]
  apply List.ext_getElem h
  intro i h1 h2
  have := hu.get i (by omega)
  simpa [List.getD_eq_getElem?_getD, List.getElem?_eq_getElem h1, List.getElem?_eq_getElem h2] using this

set_option maxHeartbeats 4000000 in
set_option maxRecDepth 100000 in
theorem ints_ok : Meets Try.prog 65 sInts := by
  refine meets_plain (gok_nil _) rfl [] (fn := Try.f65) rfl rfl rfl (by decide) fun ⟨a, b⟩ hl => ?_
  have hl : a.length ≤ 1000000 := hl
  repeat' (first | (intro h; first | exact Bool.noConfusion h | (guard_hyp h : true = true; clear h) | (guard_hyp h : false = false; clear h) | (simp only [decide_eq_true_eq, decide_eq_false_iff_not, beq_iff_eq, beq_eq_false_iff_ne, bne_iff_ne, bne_eq_false_iff_eq, Bool.not_eq_true', Bool.not_eq_false', ne_eq, Classical.not_not, Bool.not_true, Bool.not_false, beqL_iff, beqL_ff, List.cons.injEq, and_true] at h) | skip) | ((conv => whnf) <;> (first | exact True.intro | apply br_rec | apply And.intro | apply EntP.k0 | apply EntP.k1 | apply EntP.k2 | apply EntP.k3 | apply EntP.k4 | apply EntP.k5 | apply EntP.k6 | apply DrawP.go | (apply AnyP.mk; kernel_rfl) | (refine AggP.go 2 rfl (by kernel_rfl) ?_) | (refine AggP.go 1 rfl (by kernel_rfl) ?_) | (refine AggP.go 3 rfl (by kernel_rfl) ?_) | (refine AggP.go 4 rfl (by kernel_rfl) ?_) | (refine AggP.go 5 rfl (by kernel_rfl) ?_) | (refine AggP.go 8 rfl (by kernel_rfl) ?_) | (refine AggP.go 11 rfl (by kernel_rfl) ?_) | apply CallP.own0 | apply CallP.own1 | apply CallP.own2 | apply CallP.own3 | apply CallP.nb | apply CutE.go0 | apply CutE.go7 | apply CutE.go6 | apply CutE.go5 | apply CutE.go4 | apply CutE.go3 | apply CutE.go2 | apply CutE.go1 | apply RoP.id | apply wrapS | (with_reducible exact lenNil) | apply Eq.refl)) | ((first | (with_reducible show rvEq _ _ _ _) | (with_reducible show svEq _ _ _ _) | (with_reducible show cellEq _ _ _ _) | (with_reducible show blkEq _ _ _)); conv => whnf))
  · simp only [false_eq_decide_iff, decide_eq_false_iff_not]
    rintro rfl
    exact absurd rfl (by assumption)
  apply LoopP.up (G := Nat) (fun k => k ≤ a.length ∧ Up k fun i => a.getD i default = b.getD i default) [0, 1, 12, 13] (fun k => [(13, .i k)]) (fun _ => []) 0 (fun k => a.length - k)
  apply And.intro
  · refine CutE.at 0 ?_
    repeat' (first | (intro h; first | exact Bool.noConfusion h | (guard_hyp h : true = true; clear h) | (guard_hyp h : false = false; clear h) | (simp only [decide_eq_true_eq, decide_eq_false_iff_not, beq_iff_eq, beq_eq_false_iff_ne, bne_iff_ne, bne_eq_false_iff_eq, Bool.not_eq_true', Bool.not_eq_false', ne_eq, Classical.not_not, Bool.not_true, Bool.not_false, beqL_iff, beqL_ff, List.cons.injEq, and_true] at h) | skip) | ((conv => whnf) <;> (first | exact True.intro | apply br_rec | apply And.intro | apply EntP.k0 | apply EntP.k1 | apply EntP.k2 | apply EntP.k3 | apply EntP.k4 | apply EntP.k5 | apply EntP.k6 | apply DrawP.go | (apply AnyP.mk; kernel_rfl) | (refine AggP.go 2 rfl (by kernel_rfl) ?_) | (refine AggP.go 1 rfl (by kernel_rfl) ?_) | (refine AggP.go 3 rfl (by kernel_rfl) ?_) | (refine AggP.go 4 rfl (by kernel_rfl) ?_) | (refine AggP.go 5 rfl (by kernel_rfl) ?_) | (refine AggP.go 8 rfl (by kernel_rfl) ?_) | (refine AggP.go 11 rfl (by kernel_rfl) ?_) | apply CallP.own0 | apply CallP.own1 | apply CallP.own2 | apply CallP.own3 | apply CallP.nb | apply CutE.go0 | apply CutE.go7 | apply CutE.go6 | apply CutE.go5 | apply CutE.go4 | apply CutE.go3 | apply CutE.go2 | apply CutE.go1 | apply RoP.id | apply wrapS | (with_reducible exact lenNil) | apply Eq.refl)) | ((first | (with_reducible show rvEq _ _ _ _) | (with_reducible show svEq _ _ _ _) | (with_reducible show cellEq _ _ _ _) | (with_reducible show blkEq _ _ _)); conv => whnf))
    all_goals try simp only [Int.toNat_natCast, Int.toNat_zero, ge_iff_le, gt_iff_lt, Int.ofNat_le, Int.ofNat_lt, Int.ofNat_inj] at *
    all_goals first
      | omega
      | (dsimp only; omega)
      | assumption
      | exact Up.zero _
      | (show ((8 : Nat) : Int) * _ ≤ _; omega)
      | (show _ * (8 : Nat) ≤ _; omega)
      | (show _ * (16 : Nat) ≤ _; omega)
      | (show _ * (24 : Nat) ≤ _; omega)
      | trace_state
  · intro k ⟨hk, hu⟩
    repeat' (first | (intro h; first | exact Bool.noConfusion h | (guard_hyp h : true = true; clear h) | (guard_hyp h : false = false; clear h) | (simp only [decide_eq_true_eq, decide_eq_false_iff_not, beq_iff_eq, beq_eq_false_iff_ne, bne_iff_ne, bne_eq_false_iff_eq, Bool.not_eq_true', Bool.not_eq_false', ne_eq, Classical.not_not, Bool.not_true, Bool.not_false, beqL_iff, beqL_ff, List.cons.injEq, and_true] at h) | skip) | ((conv => whnf) <;> (first | exact True.intro | apply br_rec | apply And.intro | apply EntP.k0 | apply EntP.k1 | apply EntP.k2 | apply EntP.k3 | apply EntP.k4 | apply EntP.k5 | apply EntP.k6 | apply DrawP.go | (apply AnyP.mk; kernel_rfl) | (refine AggP.go 2 rfl (by kernel_rfl) ?_) | (refine AggP.go 1 rfl (by kernel_rfl) ?_) | (refine AggP.go 3 rfl (by kernel_rfl) ?_) | (refine AggP.go 4 rfl (by kernel_rfl) ?_) | (refine AggP.go 5 rfl (by kernel_rfl) ?_) | (refine AggP.go 8 rfl (by kernel_rfl) ?_) | (refine AggP.go 11 rfl (by kernel_rfl) ?_) | apply CallP.own0 | apply CallP.own1 | apply CallP.own2 | apply CallP.own3 | apply CallP.nb | apply CutE.go0 | apply CutE.go7 | apply CutE.go6 | apply CutE.go5 | apply CutE.go4 | apply CutE.go3 | apply CutE.go2 | apply CutE.go1 | apply RoP.id | apply wrapS | (with_reducible exact lenNil) | apply Eq.refl)) | ((first | (with_reducible show rvEq _ _ _ _) | (with_reducible show svEq _ _ _ _) | (with_reducible show cellEq _ _ _ _) | (with_reducible show blkEq _ _ _)); conv => whnf))
    all_goals try simp only [Int.toNat_natCast, Int.toNat_zero, ge_iff_le, gt_iff_lt, Int.ofNat_le, Int.ofNat_lt, Int.ofNat_inj] at *
    all_goals first
      | omega
      | (dsimp only; omega)
      | assumption
      | exact Up.zero _
      | (show ((8 : Nat) : Int) * _ ≤ _; omega)
      | (show _ * (8 : Nat) ≤ _; omega)
      | (show _ * (16 : Nat) ≤ _; omega)
      | (show _ * (24 : Nat) ≤ _; omega)
      | exact hu.succ (by assumption)
      | exact getD_ne (by omega) (i := k) (by omega) (by assumption)
      | exact eq_of_up (by omega) (k := k) (by omega) hu
      | trace_state

theorem withF_len (l : List Int) (a v : Int) : (withF l a v).length = l.length := by unfold withF; split <;> simp
theorem withF_at {l : List Int} {a v : Int} {k : Nat} (hk : k < l.length) (h : (k : Int) = a) : (withF l a v).getD k default = v := by
  subst h
  simp [withF, List.getD_eq_getElem?_getD, hk]
theorem withF_ne {l : List Int} {a v : Int} {k : Nat} (h : ¬ (k : Int) = a) : (withF l a v).getD k default = l.getD k default := by
  unfold withF
  split
  · simp only [List.getD_eq_getElem?_getD]
    rw [List.getElem?_set_ne (by omega)]
  · rfl

set_option maxHeartbeats 4000000 in
set_option maxRecDepth 100000 in
theorem with_ok : Meets Try.prog 66 sWith := by
  refine meets_plain (gok_nil _) rfl [] (fn := Try.f66) rfl rfl rfl (by decide) fun ⟨l, a, v⟩ hl => ?_
  have hl : l.length ≤ 1000000 := hl
  repeat' (first | (intro h; first | exact Bool.noConfusion h | (guard_hyp h : true = true; clear h) | (guard_hyp h : false = false; clear h) | (simp only [decide_eq_true_eq, decide_eq_false_iff_not, beq_iff_eq, beq_eq_false_iff_ne, bne_iff_ne, bne_eq_false_iff_eq, Bool.not_eq_true', Bool.not_eq_false', ne_eq, Classical.not_not, Bool.not_true, Bool.not_false, beqL_iff, beqL_ff, List.cons.injEq, and_true] at h) | skip) | ((conv => whnf) <;> (first | exact True.intro | apply br_rec | apply And.intro | apply EntP.k0 | apply EntP.k1 | apply EntP.k2 | apply EntP.k3 | apply EntP.k4 | apply EntP.k5 | apply EntP.k6 | apply DrawP.go | (apply AnyP.mk; kernel_rfl) | (refine AggP.go 2 rfl (by kernel_rfl) ?_) | (refine AggP.go 1 rfl (by kernel_rfl) ?_) | (refine AggP.go 3 rfl (by kernel_rfl) ?_) | (refine AggP.go 4 rfl (by kernel_rfl) ?_) | (refine AggP.go 5 rfl (by kernel_rfl) ?_) | (refine AggP.go 8 rfl (by kernel_rfl) ?_) | (refine AggP.go 11 rfl (by kernel_rfl) ?_) | apply CallP.own0 | apply CallP.own1 | apply CallP.own2 | apply CallP.own3 | apply CallP.nb | apply CutE.go0 | apply CutE.go7 | apply CutE.go6 | apply CutE.go5 | apply CutE.go4 | apply CutE.go3 | apply CutE.go2 | apply CutE.go1 | apply RoP.id | apply wrapS | (with_reducible exact lenNil) | apply Eq.refl)) | ((first | (with_reducible show rvEq _ _ _ _) | (with_reducible show svEq _ _ _ _) | (with_reducible show cellEq _ _ _ _) | (with_reducible show blkEq _ _ _)); conv => whnf))
  apply LoopP.up (G := Nat) (fun k => k ≤ l.length) [1, 2, 7, 11, 12, 13] (fun k => [(13, .i k)]) (fun k => [(0, .slc 3 1 k (slG encI ((withF l a v).take k)))]) 1 (fun k => l.length - k)
  apply And.intro
  · refine CutE.at 0 ?_
    repeat' (first | (intro h; first | exact Bool.noConfusion h | (guard_hyp h : true = true; clear h) | (guard_hyp h : false = false; clear h) | (simp only [decide_eq_true_eq, decide_eq_false_iff_not, beq_iff_eq, beq_eq_false_iff_ne, bne_iff_ne, bne_eq_false_iff_eq, Bool.not_eq_true', Bool.not_eq_false', ne_eq, Classical.not_not, Bool.not_true, Bool.not_false, beqL_iff, beqL_ff, List.cons.injEq, and_true] at h) | skip) | ((conv => whnf) <;> (first | exact True.intro | apply br_rec | apply And.intro | apply EntP.k0 | apply EntP.k1 | apply EntP.k2 | apply EntP.k3 | apply EntP.k4 | apply EntP.k5 | apply EntP.k6 | apply DrawP.go | (apply AnyP.mk; kernel_rfl) | (refine AggP.go 2 rfl (by kernel_rfl) ?_) | (refine AggP.go 1 rfl (by kernel_rfl) ?_) | (refine AggP.go 3 rfl (by kernel_rfl) ?_) | (refine AggP.go 4 rfl (by kernel_rfl) ?_) | (refine AggP.go 5 rfl (by kernel_rfl) ?_) | (refine AggP.go 8 rfl (by kernel_rfl) ?_) | (refine AggP.go 11 rfl (by kernel_rfl) ?_) | apply CallP.own0 | apply CallP.own1 | apply CallP.own2 | apply CallP.own3 | apply CallP.nb | apply CutE.go0 | apply CutE.go7 | apply CutE.go6 | apply CutE.go5 | apply CutE.go4 | apply CutE.go3 | apply CutE.go2 | apply CutE.go1 | apply RoP.id | apply wrapS | (with_reducible exact lenNil) | apply Eq.refl)) | ((first | (with_reducible show rvEq _ _ _ _) | (with_reducible show svEq _ _ _ _) | (with_reducible show cellEq _ _ _ _) | (with_reducible show blkEq _ _ _)); conv => whnf))
    all_goals try simp only [Int.toNat_natCast, Int.toNat_zero, ge_iff_le, gt_iff_lt, Int.ofNat_le, Int.ofNat_lt, Int.ofNat_inj] at *
    all_goals first
      | omega
      | (dsimp only; omega)
      | assumption
      | exact Up.zero _
      | (show ((8 : Nat) : Int) * _ ≤ _; omega)
      | (show _ * (8 : Nat) ≤ _; omega)
      | (show _ * (16 : Nat) ≤ _; omega)
      | (show _ * (24 : Nat) ≤ _; omega)
      | trace_state
  · intro k hk
    repeat' (first | (intro h; first | exact Bool.noConfusion h | (guard_hyp h : true = true; clear h) | (guard_hyp h : false = false; clear h) | (simp only [decide_eq_true_eq, decide_eq_false_iff_not, beq_iff_eq, beq_eq_false_iff_ne, bne_iff_ne, bne_eq_false_iff_eq, Bool.not_eq_true', Bool.not_eq_false', ne_eq, Classical.not_not, Bool.not_true, Bool.not_false, beqL_iff, beqL_ff, List.cons.injEq, and_true] at h) | skip) | ((conv => whnf) <;> (first | exact True.intro | apply br_rec | apply And.intro | apply EntP.k0 | apply EntP.k1 | apply EntP.k2 | apply EntP.k3 | apply EntP.k4 | apply EntP.k5 | apply EntP.k6 | apply DrawP.go | (apply AnyP.mk; kernel_rfl) | (refine AggP.go 2 rfl (by kernel_rfl) ?_) | (refine AggP.go 1 rfl (by kernel_rfl) ?_) | (refine AggP.go 3 rfl (by kernel_rfl) ?_) | (refine AggP.go 4 rfl (by kernel_rfl) ?_) | (refine AggP.go 5 rfl (by kernel_rfl) ?_) | (refine AggP.go 8 rfl (by kernel_rfl) ?_) | (refine AggP.go 11 rfl (by kernel_rfl) ?_) | apply CallP.own0 | apply CallP.own1 | apply CallP.own2 | apply CallP.own3 | apply CallP.nb | apply CutE.go0 | apply CutE.go7 | apply CutE.go6 | apply CutE.go5 | apply CutE.go4 | apply CutE.go3 | apply CutE.go2 | apply CutE.go1 | apply RoP.id | apply wrapS | (with_reducible exact lenNil) | apply Eq.refl)) | ((first | (with_reducible show rvEq _ _ _ _) | (with_reducible show svEq _ _ _ _) | (with_reducible show cellEq _ _ _ _) | (with_reducible show blkEq _ _ _)); conv => whnf))
    all_goals have hlen := withF_len l a v
    all_goals try simp only [Int.toNat_natCast, Int.toNat_zero, ge_iff_le, gt_iff_lt, Int.ofNat_le, Int.ofNat_lt, Int.ofNat_inj] at *
    all_goals first
      | omega
      | (dsimp only; omega)
      | assumption
      | exact Up.zero _
      | (show ((8 : Nat) : Int) * _ ≤ _; omega)
      | (show _ * (8 : Nat) ≤ _; omega)
      | (show _ * (16 : Nat) ≤ _; omega)
      | (show _ * (24 : Nat) ≤ _; omega)
      | exact slG_take1 (q := 1) (by omega) rfl (by assumption) (by assumption) (by rw [withF_at (by omega) (by assumption)]; rfl)
      | exact slG_take1 (q := 1) (by omega) rfl (by assumption) (by assumption) (by rw [withF_ne (by assumption)]; rfl)
      | exact slG_all (by omega)
      | trace_state

set_option maxHeartbeats 4000000 in
set_option maxRecDepth 100000 in
theorem rload_ok : Meets Try.prog 33 sRLoad := by
  refine meets_plain (gok_nil _) rfl [] (fn := Try.f33) rfl rfl rfl (by decide) fun ⟨ws, ts, a⟩ hm => ?_
  have hm : memR ws ts = true := hm
  repeat' (first | (intro h; first | exact Bool.noConfusion h | (guard_hyp h : true = true; clear h) | (guard_hyp h : false = false; clear h) | (simp only [decide_eq_true_eq, decide_eq_false_iff_not, beq_iff_eq, beq_eq_false_iff_ne, bne_iff_ne, bne_eq_false_iff_eq, Bool.not_eq_true', Bool.not_eq_false', ne_eq, Classical.not_not, Bool.not_true, Bool.not_false, beqL_iff, beqL_ff, List.cons.injEq, and_true] at h) | skip) | ((conv => whnf) <;> (first | exact True.intro | apply br_rec | apply And.intro | apply EntP.k0 | apply EntP.k1 | apply EntP.k2 | apply EntP.k3 | apply EntP.k4 | apply EntP.k5 | apply EntP.k6 | apply DrawP.go | (apply AnyP.mk; kernel_rfl) | (refine AggP.go 2 rfl (by kernel_rfl) ?_) | (refine AggP.go 1 rfl (by kernel_rfl) ?_) | (refine AggP.go 3 rfl (by kernel_rfl) ?_) | (refine AggP.go 4 rfl (by kernel_rfl) ?_) | (refine AggP.go 5 rfl (by kernel_rfl) ?_) | (refine AggP.go 8 rfl (by kernel_rfl) ?_) | (refine AggP.go 11 rfl (by kernel_rfl) ?_) | apply CallP.own0 | apply CallP.own1 | apply CallP.own2 | apply CallP.own3 | apply CallP.nb | apply CutE.go0 | apply CutE.go7 | apply CutE.go6 | apply CutE.go5 | apply CutE.go4 | apply CutE.go3 | apply CutE.go2 | apply CutE.go1 | apply RoP.id | apply wrapS | (with_reducible exact lenNil) | apply Eq.refl)) | ((first | (with_reducible show rvEq _ _ _ _) | (with_reducible show svEq _ _ _ _) | (with_reducible show cellEq _ _ _ _) | (with_reducible show blkEq _ _ _)); conv => whnf))
  all_goals try (have ht := memR_tag hm (a := a) (by omega))
  all_goals try simp only [Int.toNat_natCast, Int.toNat_zero, ge_iff_le, gt_iff_lt, Int.ofNat_le, Int.ofNat_lt, Int.ofNat_inj] at *
  all_goals first
    | omega
    | (dsimp only; omega)
    | assumption
    | exact Up.zero _
    | (show ((8 : Nat) : Int) * _ ≤ _; omega)
    | (show _ * (8 : Nat) ≤ _; omega)
    | (show _ * (16 : Nat) ≤ _; omega)
    | (show _ * (24 : Nat) ≤ _; omega)
    | (have hu : useF ws ts a = 3 := by simp only [useF, hm, if_true]; rw [if_pos (by omega)]
       simp [loadF, hu]; done)
    | (have hu : useF ws ts a = whyF (ts.getD a.toNat default) := by simp only [useF, hm, if_true]; rw [if_neg (c := a < 0 ∨ _) (by omega)]
       have : ts.getD a.toNat default = 0 ∨ ts.getD a.toNat default = 1 ∨ ts.getD a.toNat default = 2 := by omega
       revert hu this
       generalize ts.getD a.toNat default = d at *
       rintro hu (rfl | rfl | rfl) <;> simp_all [loadF, whyF]; done)
    | trace_state
def M3 : List (Nat × FSpec) := (33, sRLoad) :: (66, sWith) :: (65, sInts) :: M2
theorem M3_ok : GOK Try.prog (tab M3) := gok_cons rload_ok (gok_cons with_ok (gok_cons ints_ok M2_ok))
theorem loadF_use (ws ts : List Int) (a : Int) : (loadF ws ts a).2 = useF ws ts a := by
  unfold loadF
  split
  · rename_i h; exact h.symm
  · rfl
set_option maxHeartbeats 4000000 in
set_option maxRecDepth 100000 in
theorem rstore_ok : Meets Try.prog 34 sRStore := by
  refine meets_plain M3_ok rfl [] (fn := Try.f34) rfl rfl rfl (by decide) fun ⟨ws, ts, a, v⟩ hm => ?_
  have hm : memR ws ts = true := hm
  have hn := memR_iff.1 hm
  repeat' (first | (intro h; first | exact Bool.noConfusion h | (guard_hyp h : true = true; clear h) | (guard_hyp h : false = false; clear h) | (simp only [decide_eq_true_eq, decide_eq_false_iff_not, beq_iff_eq, beq_eq_false_iff_ne, bne_iff_ne, bne_eq_false_iff_eq, Bool.not_eq_true', Bool.not_eq_false', ne_eq, Classical.not_not, Bool.not_true, Bool.not_false, beqL_iff, beqL_ff, List.cons.injEq, and_true] at h) | skip) | ((conv => whnf) <;> (first | exact True.intro | apply br_rec | apply And.intro | apply EntP.k0 | apply EntP.k1 | apply EntP.k2 | apply EntP.k3 | apply EntP.k4 | apply EntP.k5 | apply EntP.k6 | apply DrawP.go | (apply AnyP.mk; kernel_rfl) | (refine AggP.go 2 rfl (by kernel_rfl) ?_) | (refine AggP.go 1 rfl (by kernel_rfl) ?_) | (refine AggP.go 3 rfl (by kernel_rfl) ?_) | (refine AggP.go 4 rfl (by kernel_rfl) ?_) | (refine AggP.go 5 rfl (by kernel_rfl) ?_) | (refine AggP.go 8 rfl (by kernel_rfl) ?_) | (refine AggP.go 11 rfl (by kernel_rfl) ?_) | apply CallP.own0 | apply CallP.own1 | apply CallP.own2 | apply CallP.own3 | apply CallP.nb | apply CutE.go0 | apply CutE.go7 | apply CutE.go6 | apply CutE.go5 | apply CutE.go4 | apply CutE.go3 | apply CutE.go2 | apply CutE.go1 | apply RoP.id | apply wrapS | (with_reducible exact lenNil) | apply Eq.refl)) | ((first | (with_reducible show rvEq _ _ _ _) | (with_reducible show svEq _ _ _ _) | (with_reducible show cellEq _ _ _ _) | (with_reducible show blkEq _ _ _)); conv => whnf))
  all_goals try simp only [loadF_use] at *
  all_goals try simp only [Int.toNat_natCast, Int.toNat_zero, ge_iff_le, gt_iff_lt, Int.ofNat_le, Int.ofNat_lt, Int.ofNat_inj] at *
  all_goals first
    | omega
    | (dsimp only; omega)
    | assumption
    | exact Up.zero _
    | (show ((8 : Nat) : Int) * _ ≤ _; omega)
    | (show _ * (8 : Nat) ≤ _; omega)
    | (show _ * (16 : Nat) ≤ _; omega)
    | (show _ * (24 : Nat) ≤ _; omega)
    | (show ws.length ≤ 1000000; omega)
    | (simp [storeF, *]; done)
    | (have hu := useF_ok.1 (by assumption); simp [storeF, withF, *]; done)
    | (have hu := useF_ok.1 (by assumption); simp only [storeF, withF]; rw [if_pos (by assumption), if_pos (by omega)])
    | trace_state
set_option maxHeartbeats 4000000 in
set_option maxRecDepth 100000 in
theorem same_ok : Meets Try.prog 32 sSame := by
  refine meets_plain M3_ok rfl [] (fn := Try.f32) rfl rfl rfl (by decide) fun ⟨a, b, c, d⟩ ⟨h1, h2⟩ => ?_
  repeat' (first | (intro h; first | exact Bool.noConfusion h | (guard_hyp h : true = true; clear h) | (guard_hyp h : false = false; clear h) | (simp only [decide_eq_true_eq, decide_eq_false_iff_not, beq_iff_eq, beq_eq_false_iff_ne, bne_iff_ne, bne_eq_false_iff_eq, Bool.not_eq_true', Bool.not_eq_false', ne_eq, Classical.not_not, Bool.not_true, Bool.not_false, beqL_iff, beqL_ff, List.cons.injEq, and_true] at h) | skip) | ((conv => whnf) <;> (first | exact True.intro | apply br_rec | apply And.intro | apply EntP.k0 | apply EntP.k1 | apply EntP.k2 | apply EntP.k3 | apply EntP.k4 | apply EntP.k5 | apply EntP.k6 | apply DrawP.go | (apply AnyP.mk; kernel_rfl) | (refine AggP.go 2 rfl (by kernel_rfl) ?_) | (refine AggP.go 1 rfl (by kernel_rfl) ?_) | (refine AggP.go 3 rfl (by kernel_rfl) ?_) | (refine AggP.go 4 rfl (by kernel_rfl) ?_) | (refine AggP.go 5 rfl (by kernel_rfl) ?_) | (refine AggP.go 8 rfl (by kernel_rfl) ?_) | (refine AggP.go 11 rfl (by kernel_rfl) ?_) | apply CallP.own0 | apply CallP.own1 | apply CallP.own2 | apply CallP.own3 | apply CallP.nb | apply CutE.go0 | apply CutE.go7 | apply CutE.go6 | apply CutE.go5 | apply CutE.go4 | apply CutE.go3 | apply CutE.go2 | apply CutE.go1 | apply RoP.id | apply wrapS | (with_reducible exact lenNil) | apply Eq.refl)) | ((first | (with_reducible show rvEq _ _ _ _) | (with_reducible show svEq _ _ _ _) | (with_reducible show cellEq _ _ _ _) | (with_reducible show blkEq _ _ _)); conv => whnf))
  all_goals try simp only [Int.toNat_natCast, Int.toNat_zero, ge_iff_le, gt_iff_lt, Int.ofNat_le, Int.ofNat_lt, Int.ofNat_inj] at *
  all_goals first
    | omega
    | (dsimp only; omega)
    | assumption
    | exact Up.zero _
    | (show ((8 : Nat) : Int) * _ ≤ _; omega)
    | (show _ * (8 : Nat) ≤ _; omega)
    | (show _ * (16 : Nat) ≤ _; omega)
    | (show _ * (24 : Nat) ≤ _; omega)
    | (simp [sameF, *]; done)
    | trace_state
set_option maxHeartbeats 4000000 in
set_option maxRecDepth 100000 in
theorem mem_ok : Meets Try.prog 27 sMem := by
  refine meets_plain M3_ok rfl [] (fn := Try.f27) rfl rfl rfl (by decide) fun ⟨a, b⟩ _ => ?_
  repeat' (first | (intro h; first | exact Bool.noConfusion h | (guard_hyp h : true = true; clear h) | (guard_hyp h : false = false; clear h) | (simp only [decide_eq_true_eq, decide_eq_false_iff_not, beq_iff_eq, beq_eq_false_iff_ne, bne_iff_ne, bne_eq_false_iff_eq, Bool.not_eq_true', Bool.not_eq_false', ne_eq, Classical.not_not, Bool.not_true, Bool.not_false, beqL_iff, beqL_ff, List.cons.injEq, and_true] at h) | skip) | ((conv => whnf) <;> (first | exact True.intro | apply br_rec | apply And.intro | apply EntP.k0 | apply EntP.k1 | apply EntP.k2 | apply EntP.k3 | apply EntP.k4 | apply EntP.k5 | apply EntP.k6 | apply DrawP.go | (apply AnyP.mk; kernel_rfl) | (refine AggP.go 2 rfl (by kernel_rfl) ?_) | (refine AggP.go 1 rfl (by kernel_rfl) ?_) | (refine AggP.go 3 rfl (by kernel_rfl) ?_) | (refine AggP.go 4 rfl (by kernel_rfl) ?_) | (refine AggP.go 5 rfl (by kernel_rfl) ?_) | (refine AggP.go 8 rfl (by kernel_rfl) ?_) | (refine AggP.go 11 rfl (by kernel_rfl) ?_) | apply CallP.own0 | apply CallP.own1 | apply CallP.own2 | apply CallP.own3 | apply CallP.nb | apply CutE.go0 | apply CutE.go7 | apply CutE.go6 | apply CutE.go5 | apply CutE.go4 | apply CutE.go3 | apply CutE.go2 | apply CutE.go1 | apply RoP.id | apply wrapS | (with_reducible exact lenNil) | apply Eq.refl)) | ((first | (with_reducible show rvEq _ _ _ _) | (with_reducible show svEq _ _ _ _) | (with_reducible show cellEq _ _ _ _) | (with_reducible show blkEq _ _ _)); conv => whnf))
  all_goals try simp only [Int.toNat_natCast, Int.toNat_zero, ge_iff_le, gt_iff_lt, Int.ofNat_le, Int.ofNat_lt, Int.ofNat_inj] at *
  all_goals first
    | omega
    | (dsimp only; omega)
    | assumption
    | exact Up.zero _
    | (show ((8 : Nat) : Int) * _ ≤ _; omega)
    | (show _ * (8 : Nat) ≤ _; omega)
    | (show _ * (16 : Nat) ≤ _; omega)
    | (show _ * (24 : Nat) ≤ _; omega)
    | exact take_lo (m := 170)
    | exact take_hi (m := 170)
    | exact take_len (m := 170)
    | (apply take_cell (m := 170); assumption)
    | trace_state
end Go.Eng
