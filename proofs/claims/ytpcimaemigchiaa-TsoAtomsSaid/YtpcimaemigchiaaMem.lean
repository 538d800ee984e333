/- Memory: what its functions, and the reference's, compute. -/
import Derived.Test.YtpcimaemigchiaaEngC
import Derived.Test.YtpcimaemigchiaaProg
set_option linter.unusedVariables false
set_option linter.unusedSimpArgs false
namespace Go.Eng
open Go Go.Proofs

abbrev intsS (l : List Int) : Cell := slC 1 encI l
def memC (ws ts : List Int) : List Cell := [intsS ws, intsS ts]
def okT (t w : Int) : Bool := decide (t = 0 ∧ w = 0 ∨ t = 1 ∨ t = 2)
/-- May a memory be? -/
def memR (ws ts : List Int) : Bool := decide (1 ≤ ws.length ∧ ws.length ≤ 160 ∧ ts.length = ws.length) && (List.range ts.length).all fun i => okT (ts.getD i default) (ws.getD i default)
theorem memR_iff {ws ts : List Int} : memR ws ts = true ↔ 1 ≤ ws.length ∧ ws.length ≤ 160 ∧ ts.length = ws.length ∧ ∀ i, i < ts.length → okT (ts.getD i default) (ws.getD i default) = true := by
  simp only [memR, Bool.and_eq_true, decide_eq_true_eq, List.all_eq_true, List.mem_range]
  constructor
  · rintro ⟨⟨h1, h2, h3⟩, h4⟩; exact ⟨h1, h2, h3, h4⟩
  · rintro ⟨h1, h2, h3, h4⟩; exact ⟨⟨h1, h2, h3⟩, h4⟩
theorem memR_false {ws ts : List Int} {i : Nat} (hi : i < ts.length) (h : okT (ts.getD i default) (ws.getD i default) = false) : memR ws ts = false := by
  cases hm : memR ws ts with
  | false => rfl
  | true => have := (memR_iff.1 hm).2.2.2 i hi; rw [h] at this; cases this
theorem memR_len {ws ts : List Int} (h : ¬ (1 ≤ ws.length ∧ ws.length ≤ 160 ∧ ts.length = ws.length)) : memR ws ts = false := by
  cases hm : memR ws ts with
  | false => rfl
  | true => have := memR_iff.1 hm; exact (h ⟨this.1, this.2.1, this.2.2.1⟩).elim
theorem okT_true {t w : Int} : okT t w = true ↔ (t = 0 ∧ w = 0 ∨ t = 1 ∨ t = 2) := by simp [okT]
theorem okT_false {t w : Int} : okT t w = false ↔ ¬ (t = 0 ∧ w = 0 ∨ t = 1 ∨ t = 2) := by simp [okT]

def sMemRight : FSpec := spec (List Int × List Int) (fun (ws, ts) => [.agg (memC ws ts)]) (fun _ => True) fun (ws, ts) => .b (memR ws ts)
def sRRight : FSpec := sMemRight

set_option maxHeartbeats 4000000 in
set_option maxRecDepth 100000 in
theorem memRight_ok : Meets Try.prog 39 sMemRight := by
  refine meets_plain (gok_nil _) rfl [] (fn := Try.f39) rfl rfl rfl (by decide) fun ⟨ws, ts⟩ _ => ?_
  repeat' (first | (intro h; first | exact Bool.noConfusion h | (guard_hyp h : true = true; clear h) | (guard_hyp h : false = false; clear h) | (simp only [decide_eq_true_eq, decide_eq_false_iff_not, beq_iff_eq, beq_eq_false_iff_ne, bne_iff_ne, bne_eq_false_iff_eq, Bool.not_eq_true', Bool.not_eq_false', ne_eq, Classical.not_not, Bool.not_true, Bool.not_false, beqL_iff, beqL_ff, List.cons.injEq, and_true] at h) | skip) | ((conv => whnf) <;> (first | exact True.intro | apply br_rec | apply And.intro | apply EntP.k0 | apply EntP.k1 | apply EntP.k2 | apply EntP.k3 | apply EntP.k4 | apply EntP.k5 | apply EntP.k6 | apply DrawP.go | (apply AnyP.mk; kernel_rfl) | (refine AggP.go 2 rfl (by kernel_rfl) ?_) | (refine AggP.go 1 rfl (by kernel_rfl) ?_) | (refine AggP.go 3 rfl (by kernel_rfl) ?_) | (refine AggP.go 4 rfl (by kernel_rfl) ?_) | (refine AggP.go 5 rfl (by kernel_rfl) ?_) | (refine AggP.go 8 rfl (by kernel_rfl) ?_) | (refine AggP.go 11 rfl (by kernel_rfl) ?_) | apply CallP.own0 | apply CallP.own1 | apply CallP.own2 | apply CallP.own3 | apply CallP.nb | apply CutE.go0 | apply CutE.go7 | apply CutE.go6 | apply CutE.go5 | apply CutE.go4 | apply CutE.go3 | apply CutE.go2 | apply CutE.go1 | apply RoP.id | apply wrapS | (with_reducible exact lenNil) | apply Eq.refl)) | ((first | (with_reducible show rvEq _ _ _ _) | (with_reducible show svEq _ _ _ _) | (with_reducible show cellEq _ _ _ _) | (with_reducible show blkEq _ _ _)); conv => whnf))
  all_goals try (rw [memR_len (by omega)])
  apply LoopP.up (G := Nat) (fun k => k ≤ ts.length ∧ Up k fun i => okT (ts.getD i default) (ws.getD i default) = true) [1, 25, 26, 27] (fun k => [(27, .i k)]) (fun _ => []) 1 (fun k => ts.length - k)
  apply And.intro
  · refine CutE.at 0 ?_
    repeat' (first | (intro h; first | exact Bool.noConfusion h | (guard_hyp h : true = true; clear h) | (guard_hyp h : false = false; clear h) | (simp only [decide_eq_true_eq, decide_eq_false_iff_not, beq_iff_eq, beq_eq_false_iff_ne, bne_iff_ne, bne_eq_false_iff_eq, Bool.not_eq_true', Bool.not_eq_false', ne_eq, Classical.not_not, Bool.not_true, Bool.not_false, beqL_iff, beqL_ff, List.cons.injEq, and_true] at h) | skip) | ((conv => whnf) <;> (first | exact True.intro | apply br_rec | apply And.intro | apply EntP.k0 | apply EntP.k1 | apply EntP.k2 | apply EntP.k3 | apply EntP.k4 | apply EntP.k5 | apply EntP.k6 | apply DrawP.go | (apply AnyP.mk; kernel_rfl) | (refine AggP.go 2 rfl (by kernel_rfl) ?_) | (refine AggP.go 1 rfl (by kernel_rfl) ?_) | (refine AggP.go 3 rfl (by kernel_rfl) ?_) | (refine AggP.go 4 rfl (by kernel_rfl) ?_) | (refine AggP.go 5 rfl (by kernel_rfl) ?_) | (refine AggP.go 8 rfl (by kernel_rfl) ?_) | (refine AggP.go 11 rfl (by kernel_rfl) ?_) | apply CallP.own0 | apply CallP.own1 | apply CallP.own2 | apply CallP.own3 | apply CallP.nb | apply CutE.go0 | apply CutE.go7 | apply CutE.go6 | apply CutE.go5 | apply CutE.go4 | apply CutE.go3 | apply CutE.go2 | apply CutE.go1 | apply RoP.id | apply wrapS | (with_reducible exact lenNil) | apply Eq.refl)) | ((first | (with_reducible show rvEq _ _ _ _) | (with_reducible show svEq _ _ _ _) | (with_reducible show cellEq _ _ _ _) | (with_reducible show blkEq _ _ _)); conv => whnf))
    all_goals try simp only [Int.toNat_natCast, Int.toNat_zero, ge_iff_le, gt_iff_lt, Int.ofNat_le, Int.ofNat_lt, Int.ofNat_inj] at *
    all_goals first
      | omega
      | (dsimp only; omega)
      | assumption
      | exact Up.zero _
      | (show ((8 : Nat) : Int) * _ ≤ _; omega)
      | (show _ * (8 : Nat) ≤ _; omega)
      | (show _ * (16 : Nat) ≤ _; omega)
      | (show _ * (24 : Nat) ≤ _; omega)
      | trace_state
  · intro k ⟨hk, hok⟩
    repeat' (first | (intro h; first | exact Bool.noConfusion h | (guard_hyp h : true = true; clear h) | (guard_hyp h : false = false; clear h) | (simp only [decide_eq_true_eq, decide_eq_false_iff_not, beq_iff_eq, beq_eq_false_iff_ne, bne_iff_ne, bne_eq_false_iff_eq, Bool.not_eq_true', Bool.not_eq_false', ne_eq, Classical.not_not, Bool.not_true, Bool.not_false, beqL_iff, beqL_ff, List.cons.injEq, and_true] at h) | skip) | ((conv => whnf) <;> (first | exact True.intro | apply br_rec | apply And.intro | apply EntP.k0 | apply EntP.k1 | apply EntP.k2 | apply EntP.k3 | apply EntP.k4 | apply EntP.k5 | apply EntP.k6 | apply DrawP.go | (apply AnyP.mk; kernel_rfl) | (refine AggP.go 2 rfl (by kernel_rfl) ?_) | (refine AggP.go 1 rfl (by kernel_rfl) ?_) | (refine AggP.go 3 rfl (by kernel_rfl) ?_) | (refine AggP.go 4 rfl (by kernel_rfl) ?_) | (refine AggP.go 5 rfl (by kernel_rfl) ?_) | (refine AggP.go 8 rfl (by kernel_rfl) ?_) | (refine AggP.go 11 rfl (by kernel_rfl) ?_) | apply CallP.own0 | apply CallP.own1 | apply CallP.own2 | apply CallP.own3 | apply CallP.nb | apply CutE.go0 | apply CutE.go7 | apply CutE.go6 | apply CutE.go5 | apply CutE.go4 | apply CutE.go3 | apply CutE.go2 | apply CutE.go1 | apply RoP.id | apply wrapS | (with_reducible exact lenNil) | apply Eq.refl)) | ((first | (with_reducible show rvEq _ _ _ _) | (with_reducible show svEq _ _ _ _) | (with_reducible show cellEq _ _ _ _) | (with_reducible show blkEq _ _ _)); conv => whnf))
    all_goals try simp only [Int.toNat_natCast, Int.toNat_zero, ge_iff_le, gt_iff_lt, Int.ofNat_le, Int.ofNat_lt, Int.ofNat_inj] at *
    all_goals first
      | omega
      | (dsimp only; omega)
      | assumption
      | exact Up.zero _
      | (show ((8 : Nat) : Int) * _ ≤ _; omega)
      | (show _ * (8 : Nat) ≤ _; omega)
      | (show _ * (16 : Nat) ≤ _; omega)
      | (show _ * (24 : Nat) ≤ _; omega)
      | exact memR_false (i := k) (by omega) (okT_false.2 (by omega))
      | exact hok.succ (okT_true.2 (by omega))
      | exact memR_iff.2 ⟨by omega, by omega, by omega, fun i hi => hok.get i (by omega)⟩
      | trace_state

set_option maxHeartbeats 4000000 in
set_option maxRecDepth 100000 in
theorem rRight_ok : Meets Try.prog 30 sRRight := by
  refine meets_plain (gok_nil _) rfl [] (fn := Try.f30) rfl rfl rfl (by decide) fun ⟨ws, ts⟩ _ => ?_
  repeat' (first | (intro h; first | exact Bool.noConfusion h | (guard_hyp h : true = true; clear h) | (guard_hyp h : false = false; clear h) | (simp only [decide_eq_true_eq, decide_eq_false_iff_not, beq_iff_eq, beq_eq_false_iff_ne, bne_iff_ne, bne_eq_false_iff_eq, Bool.not_eq_true', Bool.not_eq_false', ne_eq, Classical.not_not, Bool.not_true, Bool.not_false, beqL_iff, beqL_ff, List.cons.injEq, and_true] at h) | skip) | ((conv => whnf) <;> (first | exact True.intro | apply br_rec | apply And.intro | apply EntP.k0 | apply EntP.k1 | apply EntP.k2 | apply EntP.k3 | apply EntP.k4 | apply EntP.k5 | apply EntP.k6 | apply DrawP.go | (apply AnyP.mk; kernel_rfl) | (refine AggP.go 2 rfl (by kernel_rfl) ?_) | (refine AggP.go 1 rfl (by kernel_rfl) ?_) | (refine AggP.go 3 rfl (by kernel_rfl) ?_) | (refine AggP.go 4 rfl (by kernel_rfl) ?_) | (refine AggP.go 5 rfl (by kernel_rfl) ?_) | (refine AggP.go 8 rfl (by kernel_rfl) ?_) | (refine AggP.go 11 rfl (by kernel_rfl) ?_) | apply CallP.own0 | apply CallP.own1 | apply CallP.own2 | apply CallP.own3 | apply CallP.nb | apply CutE.go0 | apply CutE.go7 | apply CutE.go6 | apply CutE.go5 | apply CutE.go4 | apply CutE.go3 | apply CutE.go2 | apply CutE.go1 | apply RoP.id | apply wrapS | (with_reducible exact lenNil) | apply Eq.refl)) | ((first | (with_reducible show rvEq _ _ _ _) | (with_reducible show svEq _ _ _ _) | (with_reducible show cellEq _ _ _ _) | (with_reducible show blkEq _ _ _)); conv => whnf))
  all_goals try (rw [memR_len (by omega)])
  apply LoopP.up (G := Nat) (fun k => k ≤ ts.length ∧ Up k fun i => okT (ts.getD i default) (ws.getD i default) = true) [1, 25, 26, 27] (fun k => [(27, .i k)]) (fun _ => []) 1 (fun k => ts.length - k)
  apply And.intro
  · refine CutE.at 0 ?_
    repeat' (first | (intro h; first | exact Bool.noConfusion h | (guard_hyp h : true = true; clear h) | (guard_hyp h : false = false; clear h) | (simp only [decide_eq_true_eq, decide_eq_false_iff_not, beq_iff_eq, beq_eq_false_iff_ne, bne_iff_ne, bne_eq_false_iff_eq, Bool.not_eq_true', Bool.not_eq_false', ne_eq, Classical.not_not, Bool.not_true, Bool.not_false, beqL_iff, beqL_ff, List.cons.injEq, and_true] at h) | skip) | ((conv => whnf) <;> (first | exact True.intro | apply br_rec | apply And.intro | apply EntP.k0 | apply EntP.k1 | apply EntP.k2 | apply EntP.k3 | apply EntP.k4 | apply EntP.k5 | apply EntP.k6 | apply DrawP.go | (apply AnyP.mk; kernel_rfl) | (refine AggP.go 2 rfl (by kernel_rfl) ?_) | (refine AggP.go 1 rfl (by kernel_rfl) ?_) | (refine AggP.go 3 rfl (by kernel_rfl) ?_) | (refine AggP.go 4 rfl (by kernel_rfl) ?_) | (refine AggP.go 5 rfl (by kernel_rfl) ?_) | (refine AggP.go 8 rfl (by kernel_rfl) ?_) | (refine AggP.go 11 rfl (by kernel_rfl) ?_) | apply CallP.own0 | apply CallP.own1 | apply CallP.own2 | apply CallP.own3 | apply CallP.nb | apply CutE.go0 | apply CutE.go7 | apply CutE.go6 | apply CutE.go5 | apply CutE.go4 | apply CutE.go3 | apply CutE.go2 | apply CutE.go1 | apply RoP.id | apply wrapS | (with_reducible exact lenNil) | apply Eq.refl)) | ((first | (with_reducible show rvEq _ _ _ _) | (with_reducible show svEq _ _ _ _) | (with_reducible show cellEq _ _ _ _) | (with_reducible show blkEq _ _ _)); conv => whnf))
    all_goals try simp only [Int.toNat_natCast, Int.toNat_zero, ge_iff_le, gt_iff_lt, Int.ofNat_le, Int.ofNat_lt, Int.ofNat_inj] at *
    all_goals first
      | omega
      | (dsimp only; omega)
      | assumption
      | exact Up.zero _
      | (show ((8 : Nat) : Int) * _ ≤ _; omega)
      | (show _ * (8 : Nat) ≤ _; omega)
      | (show _ * (16 : Nat) ≤ _; omega)
      | (show _ * (24 : Nat) ≤ _; omega)
      | trace_state
  · intro k ⟨hk, hok⟩
    repeat' (first | (intro h; first | exact Bool.noConfusion h | (guard_hyp h : true = true; clear h) | (guard_hyp h : false = false; clear h) | (simp only [decide_eq_true_eq, decide_eq_false_iff_not, beq_iff_eq, beq_eq_false_iff_ne, bne_iff_ne, bne_eq_false_iff_eq, Bool.not_eq_true', Bool.not_eq_false', ne_eq, Classical.not_not, Bool.not_true, Bool.not_false, beqL_iff, beqL_ff, List.cons.injEq, and_true] at h) | skip) | ((conv => whnf) <;> (first | exact True.intro | apply br_rec | apply And.intro | apply EntP.k0 | apply EntP.k1 | apply EntP.k2 | apply EntP.k3 | apply EntP.k4 | apply EntP.k5 | apply EntP.k6 | apply DrawP.go | (apply AnyP.mk; kernel_rfl) | (refine AggP.go 2 rfl (by kernel_rfl) ?_) | (refine AggP.go 1 rfl (by kernel_rfl) ?_) | (refine AggP.go 3 rfl (by kernel_rfl) ?_) | (refine AggP.go 4 rfl (by kernel_rfl) ?_) | (refine AggP.go 5 rfl (by kernel_rfl) ?_) | (refine AggP.go 8 rfl (by kernel_rfl) ?_) | (refine AggP.go 11 rfl (by kernel_rfl) ?_) | apply CallP.own0 | apply CallP.own1 | apply CallP.own2 | apply CallP.own3 | apply CallP.nb | apply CutE.go0 | apply CutE.go7 | apply CutE.go6 | apply CutE.go5 | apply CutE.go4 | apply CutE.go3 | apply CutE.go2 | apply CutE.go1 | apply RoP.id | apply wrapS | (with_reducible exact lenNil) | apply Eq.refl)) | ((first | (with_reducible show rvEq _ _ _ _) | (with_reducible show svEq _ _ _ _) | (with_reducible show cellEq _ _ _ _) | (with_reducible show blkEq _ _ _)); conv => whnf))
    all_goals try simp only [Int.toNat_natCast, Int.toNat_zero, ge_iff_le, gt_iff_lt, Int.ofNat_le, Int.ofNat_lt, Int.ofNat_inj] at *
    all_goals first
      | omega
      | (dsimp only; omega)
      | assumption
      | exact Up.zero _
      | (show ((8 : Nat) : Int) * _ ≤ _; omega)
      | (show _ * (8 : Nat) ≤ _; omega)
      | (show _ * (16 : Nat) ≤ _; omega)
      | (show _ * (24 : Nat) ≤ _; omega)
      | exact memR_false (i := k) (by omega) (okT_false.2 (by omega))
      | exact hok.succ (okT_true.2 (by omega))
      | exact memR_iff.2 ⟨by omega, by omega, by omega, fun i hi => hok.get i (by omega)⟩
      | trace_state

def whyF (t : Int) : Int := if t = 0 then 4 else if t = 1 then 0 else 5
def useF (ws ts : List Int) (at' : Int) : Int := if memR ws ts = true then (if at' < 0 ∨ ws.length ≤ at' then 3 else whyF (ts.getD at'.toNat default)) else 1
def loadF (ws ts : List Int) (at' : Int) : Int × Int := if useF ws ts at' = 0 then (ws.getD at'.toNat default, 0) else (0, useF ws ts at')
def storeF (ws ts : List Int) (at' v : Int) : (List Int × List Int) × Int := if useF ws ts at' = 0 then ((ws.set at'.toNat v, ts), 0) else (([], []), useF ws ts at')
def newF (n : Int) : (List Int × List Int) × Int := if n < 1 ∨ 160 < n then (([], []), 2) else ((List.replicate n.toNat 0, List.replicate n.toNat 0), 0)
def rMem (p : List Int × List Int) : Sv := .agg (memC p.1 p.2)
def rMemE (p : (List Int × List Int) × Int) : RV := .tup [rMem p.1, .c (.i p.2)]

theorem memR_tag {ws ts : List Int} (h : memR ws ts = true) {a : Int} (h0 : ¬ (a < 0 ∨ ws.length ≤ a)) : a.toNat < ws.length ∧ a.toNat < ts.length ∧ 0 ≤ ts.getD a.toNat default ∧ ts.getD a.toNat default ≤ 2 := by
  obtain ⟨h1, h2, h3, h4⟩ := memR_iff.1 h
  have := okT_true.1 (h4 a.toNat (by omega))
  omega
theorem useF_ok {ws ts : List Int} {a : Int} : useF ws ts a = 0 ↔ memR ws ts = true ∧ 0 ≤ a ∧ a < ws.length ∧ ts.getD a.toNat default = 1 := by
  unfold useF whyF
  constructor
  · intro h
    split at h
    · split at h
      · omega
      · split at h
        · omega
        · split at h
          · rename_i h0 h1 h2 h3; exact ⟨h0, by omega, by omega, h3⟩
          · omega
    · omega
  · rintro ⟨h1, h2, h3, h4⟩
    rw [if_pos h1, if_neg (by omega), h4]; rfl

def sWhy : FSpec := spec Int (fun t => [.i t]) (fun t => 0 ≤ t ∧ t ≤ 2) fun t => .i (whyF t)
def sUse : FSpec := spec (List Int × List Int × Int) (fun (ws, ts, a) => [.agg (memC ws ts), .i a]) (fun _ => True) fun (ws, ts, a) => .i (useF ws ts a)
def sCopied : FSpec := lentSpec 0 (List Int) (fun l => [.c (intsS l)]) (fun _ => []) (fun l => l.length ≤ 1000000) (fun _ => .c (.osl 0)) fun l => [.slc 3 1 l.length (slG encI l)]
def sLoad : FSpec := spec (List Int × List Int × Int) (fun (ws, ts, a) => [.agg (memC ws ts), .i a]) (fun _ => True) fun (ws, ts, a) => .tup [.c (.i (loadF ws ts a).1), .c (.i (loadF ws ts a).2)]
def sStore : FSpec := spec (List Int × List Int × Int × Int) (fun (ws, ts, a, v) => [.agg (memC ws ts), .i a, .i v]) (fun _ => True) fun (ws, ts, a, v) => rMemE (storeF ws ts a v)
def sNew : FSpec := spec Int (fun n => [.i n]) (fun _ => True) fun n => rMemE (newF n)

set_option maxHeartbeats 4000000 in
set_option maxRecDepth 100000 in
theorem why_ok : Meets Try.prog 67 sWhy := by
  refine meets_plain (gok_nil _) rfl [] (fn := Try.f67) rfl rfl rfl (by decide) fun t ⟨h1, h2⟩ => ?_
  repeat' (first | (intro h; first | exact Bool.noConfusion h | (guard_hyp h : true = true; clear h) | (guard_hyp h : false = false; clear h) | (simp only [decide_eq_true_eq, decide_eq_false_iff_not, beq_iff_eq, beq_eq_false_iff_ne, bne_iff_ne, bne_eq_false_iff_eq, Bool.not_eq_true', Bool.not_eq_false', ne_eq, Classical.not_not, Bool.not_true, Bool.not_false, beqL_iff, beqL_ff, List.cons.injEq, and_true] at h) | skip) | ((conv => whnf) <;> (first | exact True.intro | apply br_rec | apply And.intro | apply EntP.k0 | apply EntP.k1 | apply EntP.k2 | apply EntP.k3 | apply EntP.k4 | apply EntP.k5 | apply EntP.k6 | apply DrawP.go | (apply AnyP.mk; kernel_rfl) | (refine AggP.go 2 rfl (by kernel_rfl) ?_) | (refine AggP.go 1 rfl (by kernel_rfl) ?_) | (refine AggP.go 3 rfl (by kernel_rfl) ?_) | (refine AggP.go 4 rfl (by kernel_rfl) ?_) | (refine AggP.go 5 rfl (by kernel_rfl) ?_) | (refine AggP.go 8 rfl (by kernel_rfl) ?_) | (refine AggP.go 11 rfl (by kernel_rfl) ?_) | apply CallP.own0 | apply CallP.own1 | apply CallP.own2 | apply CallP.own3 | apply CallP.nb | apply CutE.go0 | apply CutE.go7 | apply CutE.go6 | apply CutE.go5 | apply CutE.go4 | apply CutE.go3 | apply CutE.go2 | apply CutE.go1 | apply RoP.id | apply wrapS | (with_reducible exact lenNil) | apply Eq.refl)) | ((first | (with_reducible show rvEq _ _ _ _) | (with_reducible show svEq _ _ _ _) | (with_reducible show cellEq _ _ _ _) | (with_reducible show blkEq _ _ _)); conv => whnf))
  all_goals try simp only [Int.toNat_natCast, Int.toNat_zero, ge_iff_le, gt_iff_lt, Int.ofNat_le, Int.ofNat_lt, Int.ofNat_inj] at *
  all_goals first
    | omega
    | (dsimp only; omega)
    | assumption
    | exact Up.zero _
    | (show ((8 : Nat) : Int) * _ ≤ _; omega)
    | (show _ * (8 : Nat) ≤ _; omega)
    | (show _ * (16 : Nat) ≤ _; omega)
    | (show _ * (24 : Nat) ≤ _; omega)
    | (rcases (by omega : t = 0 ∨ t = 1 ∨ t = 2) with rfl | rfl | rfl <;> rfl)
    | trace_state
def M1 : List (Nat × FSpec) := [(39, sMemRight), (30, sRRight), (67, sWhy)]
theorem M1_ok : GOK Try.prog (tab M1) := gok_cons memRight_ok (gok_cons rRight_ok (gok_cons why_ok (gok_nil _)))
set_option maxHeartbeats 4000000 in
set_option maxRecDepth 100000 in
theorem use_ok : Meets Try.prog 63 sUse := by
  refine meets_plain M1_ok rfl [] (fn := Try.f63) rfl rfl rfl (by decide) fun ⟨ws, ts, a⟩ _ => ?_
  repeat' (first | (intro h; first | exact Bool.noConfusion h | (guard_hyp h : true = true; clear h) | (guard_hyp h : false = false; clear h) | (simp only [decide_eq_true_eq, decide_eq_false_iff_not, beq_iff_eq, beq_eq_false_iff_ne, bne_iff_ne, bne_eq_false_iff_eq, Bool.not_eq_true', Bool.not_eq_false', ne_eq, Classical.not_not, Bool.not_true, Bool.not_false, beqL_iff, beqL_ff, List.cons.injEq, and_true] at h) | skip) | ((conv => whnf) <;> (first | exact True.intro | apply br_rec | apply And.intro | apply EntP.k0 | apply EntP.k1 | apply EntP.k2 | apply EntP.k3 | apply EntP.k4 | apply EntP.k5 | apply EntP.k6 | apply DrawP.go | (apply AnyP.mk; kernel_rfl) | (refine AggP.go 2 rfl (by kernel_rfl) ?_) | (refine AggP.go 1 rfl (by kernel_rfl) ?_) | (refine AggP.go 3 rfl (by kernel_rfl) ?_) | (refine AggP.go 4 rfl (by kernel_rfl) ?_) | (refine AggP.go 5 rfl (by kernel_rfl) ?_) | (refine AggP.go 8 rfl (by kernel_rfl) ?_) | (refine AggP.go 11 rfl (by kernel_rfl) ?_) | apply CallP.own0 | apply CallP.own1 | apply CallP.own2 | apply CallP.own3 | apply CallP.nb | apply CutE.go0 | apply CutE.go7 | apply CutE.go6 | apply CutE.go5 | apply CutE.go4 | apply CutE.go3 | apply CutE.go2 | apply CutE.go1 | apply RoP.id | apply wrapS | (with_reducible exact lenNil) | apply Eq.refl)) | ((first | (with_reducible show rvEq _ _ _ _) | (with_reducible show svEq _ _ _ _) | (with_reducible show cellEq _ _ _ _) | (with_reducible show blkEq _ _ _)); conv => whnf))
  all_goals try simp only [Int.toNat_natCast, Int.toNat_zero, ge_iff_le, gt_iff_lt, Int.ofNat_le, Int.ofNat_lt, Int.ofNat_inj] at *
  all_goals first
    | omega
    | (dsimp only; omega)
    | assumption
    | exact Up.zero _
    | (show ((8 : Nat) : Int) * _ ≤ _; omega)
    | (show _ * (8 : Nat) ≤ _; omega)
    | (show _ * (16 : Nat) ≤ _; omega)
    | (show _ * (24 : Nat) ≤ _; omega)
    | (simp [useF, *]; done)
    | (have := memR_tag (by assumption) (a := a) (by omega); omega)
    | (unfold useF; simp only [*]; rw [if_pos rfl]; first | rw [if_pos (by omega)] | rw [if_neg (by omega)])
    | trace_state
set_option maxHeartbeats 4000000 in
set_option maxRecDepth 100000 in
theorem copied_ok : Meets Try.prog 64 sCopied := by
  refine meets_lent 1 M1_ok rfl [] (fn := Try.f64) rfl rfl rfl (by decide) (fun _ => rfl) (fun _ => rfl) (by decide) fun l hl => ?_
  have hl : l.length ≤ 1000000 := hl
  repeat' (first | (intro h; first | exact Bool.noConfusion h | (guard_hyp h : true = true; clear h) | (guard_hyp h : false = false; clear h) | (simp only [decide_eq_true_eq, decide_eq_false_iff_not, beq_iff_eq, beq_eq_false_iff_ne, bne_iff_ne, bne_eq_false_iff_eq, Bool.not_eq_true', Bool.not_eq_false', ne_eq, Classical.not_not, Bool.not_true, Bool.not_false, beqL_iff, beqL_ff, List.cons.injEq, and_true] at h) | skip) | ((conv => whnf) <;> (first | exact True.intro | apply br_rec | apply And.intro | apply EntP.k0 | apply EntP.k1 | apply EntP.k2 | apply EntP.k3 | apply EntP.k4 | apply EntP.k5 | apply EntP.k6 | apply DrawP.go | (apply AnyP.mk; kernel_rfl) | (refine AggP.go 2 rfl (by kernel_rfl) ?_) | (refine AggP.go 1 rfl (by kernel_rfl) ?_) | (refine AggP.go 3 rfl (by kernel_rfl) ?_) | (refine AggP.go 4 rfl (by kernel_rfl) ?_) | (refine AggP.go 5 rfl (by kernel_rfl) ?_) | (refine AggP.go 8 rfl (by kernel_rfl) ?_) | (refine AggP.go 11 rfl (by kernel_rfl) ?_) | apply CallP.own0 | apply CallP.own1 | apply CallP.own2 | apply CallP.own3 | apply CallP.nb | apply CutE.go0 | apply CutE.go7 | apply CutE.go6 | apply CutE.go5 | apply CutE.go4 | apply CutE.go3 | apply CutE.go2 | apply CutE.go1 | apply RoP.id | apply wrapS | (with_reducible exact lenNil) | apply Eq.refl)) | ((first | (with_reducible show rvEq _ _ _ _) | (with_reducible show svEq _ _ _ _) | (with_reducible show cellEq _ _ _ _) | (with_reducible show blkEq _ _ _)); conv => whnf))
  all_goals try simp only [Int.toNat_natCast, Int.toNat_zero, ge_iff_le, gt_iff_lt, Int.ofNat_le, Int.ofNat_lt, Int.ofNat_inj] at *
  all_goals first
    | omega
    | (dsimp only; omega)
    | assumption
    | exact Up.zero _
    | (show ((8 : Nat) : Int) * _ ≤ _; omega)
    | (show _ * (8 : Nat) ≤ _; omega)
    | (show _ * (16 : Nat) ≤ _; omega)
    | (show _ * (24 : Nat) ≤ _; omega)
    | trace_state
def M2 : List (Nat × FSpec) := (63, sUse) :: (64, sCopied) :: M1
theorem M2_ok : GOK Try.prog (tab M2) := gok_cons use_ok (gok_cons copied_ok M1_ok)
set_option maxHeartbeats 4000000 in
set_option maxRecDepth 100000 in
theorem load_ok : Meets Try.prog 28 sLoad := by
  refine meets_plain M2_ok rfl [] (fn := Try.f28) rfl rfl rfl (by decide) fun ⟨ws, ts, a⟩ _ => ?_
  repeat' (first | (intro h; first | exact Bool.noConfusion h | (guard_hyp h : true = true; clear h) | (guard_hyp h : false = false; clear h) | (simp only [decide_eq_true_eq, decide_eq_false_iff_not, beq_iff_eq, beq_eq_false_iff_ne, bne_iff_ne, bne_eq_false_iff_eq, Bool.not_eq_true', Bool.not_eq_false', ne_eq, Classical.not_not, Bool.not_true, Bool.not_false, beqL_iff, beqL_ff, List.cons.injEq, and_true] at h) | skip) | ((conv => whnf) <;> (first | exact True.intro | apply br_rec | apply And.intro | apply EntP.k0 | apply EntP.k1 | apply EntP.k2 | apply EntP.k3 | apply EntP.k4 | apply EntP.k5 | apply EntP.k6 | apply DrawP.go | (apply AnyP.mk; kernel_rfl) | (refine AggP.go 2 rfl (by kernel_rfl) ?_) | (refine AggP.go 1 rfl (by kernel_rfl) ?_) | (refine AggP.go 3 rfl (by kernel_rfl) ?_) | (refine AggP.go 4 rfl (by kernel_rfl) ?_) | (refine AggP.go 5 rfl (by kernel_rfl) ?_) | (refine AggP.go 8 rfl (by kernel_rfl) ?_) | (refine AggP.go 11 rfl (by kernel_rfl) ?_) | apply CallP.own0 | apply CallP.own1 | apply CallP.own2 | apply CallP.own3 | apply CallP.nb | apply CutE.go0 | apply CutE.go7 | apply CutE.go6 | apply CutE.go5 | apply CutE.go4 | apply CutE.go3 | apply CutE.go2 | apply CutE.go1 | apply RoP.id | apply wrapS | (with_reducible exact lenNil) | apply Eq.refl)) | ((first | (with_reducible show rvEq _ _ _ _) | (with_reducible show svEq _ _ _ _) | (with_reducible show cellEq _ _ _ _) | (with_reducible show blkEq _ _ _)); conv => whnf))
  all_goals try simp only [Int.toNat_natCast, Int.toNat_zero, ge_iff_le, gt_iff_lt, Int.ofNat_le, Int.ofNat_lt, Int.ofNat_inj] at *
  all_goals first
    | omega
    | (dsimp only; omega)
    | assumption
    | exact Up.zero _
    | (show ((8 : Nat) : Int) * _ ≤ _; omega)
    | (show _ * (8 : Nat) ≤ _; omega)
    | (show _ * (16 : Nat) ≤ _; omega)
    | (show _ * (24 : Nat) ≤ _; omega)
    | (simp [loadF, *]; done)
    | (have := useF_ok.1 (by assumption); omega)
    | trace_state
set_option maxHeartbeats 4000000 in
set_option maxRecDepth 100000 in
theorem store_ok : Meets Try.prog 29 sStore := by
  refine meets_plain M2_ok rfl [] (fn := Try.f29) rfl rfl rfl (by decide) fun ⟨ws, ts, a, v⟩ _ => ?_
  repeat' (first | (intro h; first | exact Bool.noConfusion h | (guard_hyp h : true = true; clear h) | (guard_hyp h : false = false; clear h) | (simp only [decide_eq_true_eq, decide_eq_false_iff_not, beq_iff_eq, beq_eq_false_iff_ne, bne_iff_ne, bne_eq_false_iff_eq, Bool.not_eq_true', Bool.not_eq_false', ne_eq, Classical.not_not, Bool.not_true, Bool.not_false, beqL_iff, beqL_ff, List.cons.injEq, and_true] at h) | skip) | ((conv => whnf) <;> (first | exact True.intro | apply br_rec | apply And.intro | apply EntP.k0 | apply EntP.k1 | apply EntP.k2 | apply EntP.k3 | apply EntP.k4 | apply EntP.k5 | apply EntP.k6 | apply DrawP.go | (apply AnyP.mk; kernel_rfl) | (refine AggP.go 2 rfl (by kernel_rfl) ?_) | (refine AggP.go 1 rfl (by kernel_rfl) ?_) | (refine AggP.go 3 rfl (by kernel_rfl) ?_) | (refine AggP.go 4 rfl (by kernel_rfl) ?_) | (refine AggP.go 5 rfl (by kernel_rfl) ?_) | (refine AggP.go 8 rfl (by kernel_rfl) ?_) | (refine AggP.go 11 rfl (by kernel_rfl) ?_) | apply CallP.own0 | apply CallP.own1 | apply CallP.own2 | apply CallP.own3 | apply CallP.nb | apply CutE.go0 | apply CutE.go7 | apply CutE.go6 | apply CutE.go5 | apply CutE.go4 | apply CutE.go3 | apply CutE.go2 | apply CutE.go1 | apply RoP.id | apply wrapS | (with_reducible exact lenNil) | apply Eq.refl)) | ((first | (with_reducible show rvEq _ _ _ _) | (with_reducible show svEq _ _ _ _) | (with_reducible show cellEq _ _ _ _) | (with_reducible show blkEq _ _ _)); conv => whnf))
  all_goals try simp only [Int.toNat_natCast, Int.toNat_zero, ge_iff_le, gt_iff_lt, Int.ofNat_le, Int.ofNat_lt, Int.ofNat_inj] at *
  all_goals first
    | omega
    | (dsimp only; omega)
    | assumption
    | exact Up.zero _
    | (show ((8 : Nat) : Int) * _ ≤ _; omega)
    | (show _ * (8 : Nat) ≤ _; omega)
    | (show _ * (16 : Nat) ≤ _; omega)
    | (show _ * (24 : Nat) ≤ _; omega)
    | (simp [storeF, *]; done)
    | (have := useF_ok.1 (by assumption); omega)
    | (have hu := useF_ok.1 (by assumption); have := memR_iff.1 hu.1; show ws.length ≤ 1000000; omega)
    | (have hu := useF_ok.1 (by assumption); rw [show storeF ws ts a v = ((ws.set a.toNat v, ts), 0) by simp [storeF, *]] at *; exact slG_set1 (by omega) (by assumption) (by assumption))
    | trace_state
set_option maxHeartbeats 4000000 in
set_option maxRecDepth 100000 in
theorem new_ok : Meets Try.prog 37 sNew := by
  refine meets_plain M2_ok rfl [] (fn := Try.f37) rfl rfl rfl (by decide) fun n _ => ?_
  repeat' (first | (intro h; first | exact Bool.noConfusion h | (guard_hyp h : true = true; clear h) | (guard_hyp h : false = false; clear h) | (simp only [decide_eq_true_eq, decide_eq_false_iff_not, beq_iff_eq, beq_eq_false_iff_ne, bne_iff_ne, bne_eq_false_iff_eq, Bool.not_eq_true', Bool.not_eq_false', ne_eq, Classical.not_not, Bool.not_true, Bool.not_false, beqL_iff, beqL_ff, List.cons.injEq, and_true] at h) | skip) | ((conv => whnf) <;> (first | exact True.intro | apply br_rec | apply And.intro | apply EntP.k0 | apply EntP.k1 | apply EntP.k2 | apply EntP.k3 | apply EntP.k4 | apply EntP.k5 | apply EntP.k6 | apply DrawP.go | (apply AnyP.mk; kernel_rfl) | (refine AggP.go 2 rfl (by kernel_rfl) ?_) | (refine AggP.go 1 rfl (by kernel_rfl) ?_) | (refine AggP.go 3 rfl (by kernel_rfl) ?_) | (refine AggP.go 4 rfl (by kernel_rfl) ?_) | (refine AggP.go 5 rfl (by kernel_rfl) ?_) | (refine AggP.go 8 rfl (by kernel_rfl) ?_) | (refine AggP.go 11 rfl (by kernel_rfl) ?_) | apply CallP.own0 | apply CallP.own1 | apply CallP.own2 | apply CallP.own3 | apply CallP.nb | apply CutE.go0 | apply CutE.go7 | apply CutE.go6 | apply CutE.go5 | apply CutE.go4 | apply CutE.go3 | apply CutE.go2 | apply CutE.go1 | apply RoP.id | apply wrapS | (with_reducible exact lenNil) | apply Eq.refl)) | ((first | (with_reducible show rvEq _ _ _ _) | (with_reducible show svEq _ _ _ _) | (with_reducible show cellEq _ _ _ _) | (with_reducible show blkEq _ _ _)); conv => whnf))
  all_goals try simp only [Int.toNat_natCast, Int.toNat_zero, ge_iff_le, gt_iff_lt, Int.ofNat_le, Int.ofNat_lt, Int.ofNat_inj] at *
  all_goals first
    | omega
    | (dsimp only; omega)
    | assumption
    | exact Up.zero _
    | (show ((8 : Nat) : Int) * _ ≤ _; omega)
    | (show _ * (8 : Nat) ≤ _; omega)
    | (show _ * (16 : Nat) ≤ _; omega)
    | (show _ * (24 : Nat) ≤ _; omega)
    | (simp [newF, *]; done)
    | (unfold newF; rw [if_pos (by omega)]; rfl)
    | (unfold newF; rw [if_neg (by omega)]; simp; done)
    | (rw [show newF n = ((List.replicate n.toNat 0, List.replicate n.toNat 0), 0) by unfold newF; rw [if_neg (by omega)]] at *; simp only [List.length_replicate] at *; exact slG_rep1 (by assumption) (by assumption))
    | trace_state
end Go.Eng
