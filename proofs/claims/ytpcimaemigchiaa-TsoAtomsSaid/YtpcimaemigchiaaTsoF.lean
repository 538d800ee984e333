/- The machine: whether two are the same; new ones; a sign of life. -/
import Derived.Test.YtpcimaemigchiaaTsoE
set_option linter.unusedVariables false
set_option linter.unusedSimpArgs false
namespace Go.Eng
open Go Go.Proofs

def tsoEq (ws ts : List Int) (d : Int) (l : List (List Put)) (ws' ts' : List Int) (d' : Int) (l' : List (List Put)) : Bool := decide (ws = ws' ∧ ts = ts' ∧ d = d' ∧ l = l')
def sTSame : FSpec := spec (List Int × List Int × Int × List (List Put) × List Int × List Int × Int × List (List Put)) (fun (ws, ts, d, l, ws', ts', d', l') => [.agg (tsoC ws ts d l), .agg (tsoC ws' ts' d' l')])
  (fun (ws, ts, d, l, ws', ts', d', l') => ws.length ≤ 1000000 ∧ ts.length ≤ 1000000 ∧ Small l ∧ Small l') fun (ws, ts, d, l, ws', ts', d', l') => .b (tsoEq ws ts d l ws' ts' d' l')
theorem tsoEq_no1 {ws ts : List Int} {d : Int} {l : List (List Put)} {ws' ts' : List Int} {d' : Int} {l' : List (List Put)} (h : sameF ws ts ws' ts' = false) : tsoEq ws ts d l ws' ts' d' l' = false := by
  apply decide_eq_false
  rintro ⟨rfl, rfl, _⟩
  rw [sameF_self] at h; cases h
theorem tsoEq_no2 {ws ts : List Int} {d : Int} {l : List (List Put)} {ws' ts' : List Int} {d' : Int} {l' : List (List Put)} (h : ¬ d = d') : tsoEq ws ts d l ws' ts' d' l' = false :=
  decide_eq_false fun e => h e.2.2.1
theorem tsoEq_no3 {ws ts : List Int} {d : Int} {l : List (List Put)} {ws' ts' : List Int} {d' : Int} {l' : List (List Put)} (h : ¬ l = l') : tsoEq ws ts d l ws' ts' d' l' = false :=
  decide_eq_false fun e => h e.2.2.2
theorem tsoEq_yes {ws ts : List Int} {d : Int} {l : List (List Put)} {ws' ts' : List Int} {d' : Int} {l' : List (List Put)} (h : sameF ws ts ws' ts' = true) (h2 : d = d') (h3 : l = l') : tsoEq ws ts d l ws' ts' d' l' = true := by
  simp only [sameF, decide_eq_true_eq] at h
  exact decide_eq_true ⟨h.1, h.2, h2, h3⟩
theorem tsoEq_self (ws ts : List Int) (d : Int) (l : List (List Put)) : tsoEq ws ts d l ws ts d l = true := decide_eq_true ⟨rfl, rfl, rfl, rfl⟩
set_option maxHeartbeats 4000000 in
set_option maxRecDepth 100000 in
theorem tsame_ok : Meets Try.prog 50 sTSame := by
  refine meets_plain R2_ok rfl [] (fn := Try.f50) rfl rfl rfl (by decide) fun ⟨ws, ts, d, l, ws', ts', d', l'⟩ ⟨h1, h2, h3, h4⟩ => ?_
  repeat' (first | (intro h; first | exact Bool.noConfusion h | (guard_hyp h : true = true; clear h) | (guard_hyp h : false = false; clear h) | (simp only [decide_eq_true_eq, decide_eq_false_iff_not, beq_iff_eq, beq_eq_false_iff_ne, bne_iff_ne, bne_eq_false_iff_eq, Bool.not_eq_true', Bool.not_eq_false', ne_eq, Classical.not_not, Bool.not_true, Bool.not_false, beqL_iff, beqL_ff, List.cons.injEq, and_true] at h) | skip) | ((conv => whnf) <;> (first | exact True.intro | apply br_rec | apply And.intro | apply CutE.go8 | apply EntP.k0 | apply EntP.k1 | apply EntP.k2 | apply EntP.k3 | apply EntP.k4 | apply EntP.k5 | apply EntP.k6 | apply DrawP.go | (apply AnyP.mk; kernel_rfl) | (refine AggP.go 2 rfl (by kernel_rfl) ?_) | (refine AggP.go 1 rfl (by kernel_rfl) ?_) | (refine AggP.go 3 rfl (by kernel_rfl) ?_) | (refine AggP.go 4 rfl (by kernel_rfl) ?_) | (refine AggP.go 5 rfl (by kernel_rfl) ?_) | (refine AggP.go 8 rfl (by kernel_rfl) ?_) | (refine AggP.go 11 rfl (by kernel_rfl) ?_) | apply CallP.own0 | apply CallP.own1 | apply CallP.own2 | apply CallP.own3 | apply CallP.nb | apply CutE.go0 | apply CutE.go7 | apply CutE.go6 | apply CutE.go5 | apply CutE.go4 | apply CutE.go3 | apply CutE.go2 | apply CutE.go1 | apply RoP.id | apply wrapS | (with_reducible exact lenNil) | apply Eq.refl)) | ((first | (with_reducible show rvEq _ _ _ _) | (with_reducible show svEq _ _ _ _) | (with_reducible show cellEq _ _ _ _) | (with_reducible show blkEq _ _ _)); conv => whnf))
  all_goals try first
    | exact h1
    | exact h2
    | exact tsoEq_no1 (by assumption)
    | exact tsoEq_no2 (by assumption)
    | (apply tsoEq_no3; rintro rfl; contradiction)
  have hs : sameF ws ts ws' ts' = true := by assumption
  have hd : d = d' := by assumption
  have hll : l.length = l'.length := by omega
  have h31 := h3.1
  apply LoopP.up (G := Nat) (fun k => k ≤ l.length ∧ Up k fun i => l.getD i default = l'.getD i default) [2, 3, 30, 31] (fun k => [(31, .i k)]) (fun _ => []) 2 (fun k => l.length - k)
  apply And.intro
  · refine CutE.at 0 ?_
    repeat' (first | (intro h; first | exact Bool.noConfusion h | (guard_hyp h : true = true; clear h) | (guard_hyp h : false = false; clear h) | (simp only [decide_eq_true_eq, decide_eq_false_iff_not, beq_iff_eq, beq_eq_false_iff_ne, bne_iff_ne, bne_eq_false_iff_eq, Bool.not_eq_true', Bool.not_eq_false', ne_eq, Classical.not_not, Bool.not_true, Bool.not_false, beqL_iff, beqL_ff, List.cons.injEq, and_true] at h) | skip) | ((conv => whnf) <;> (first | exact True.intro | apply br_rec | apply And.intro | apply EntP.k0 | apply EntP.k1 | apply EntP.k2 | apply EntP.k3 | apply EntP.k4 | apply EntP.k5 | apply EntP.k6 | apply DrawP.go | (apply AnyP.mk; kernel_rfl) | (refine AggP.go 2 rfl (by kernel_rfl) ?_) | (refine AggP.go 1 rfl (by kernel_rfl) ?_) | (refine AggP.go 3 rfl (by kernel_rfl) ?_) | (refine AggP.go 4 rfl (by kernel_rfl) ?_) | (refine AggP.go 5 rfl (by kernel_rfl) ?_) | (refine AggP.go 8 rfl (by kernel_rfl) ?_) | (refine AggP.go 11 rfl (by kernel_rfl) ?_) | apply CallP.own0 | apply CallP.own1 | apply CallP.own2 | apply CallP.own3 | apply CallP.nb | apply CutE.go0 | apply CutE.go7 | apply CutE.go6 | apply CutE.go5 | apply CutE.go4 | apply CutE.go3 | apply CutE.go2 | apply CutE.go1 | apply RoP.id | apply wrapS | (with_reducible exact lenNil) | apply Eq.refl)) | ((first | (with_reducible show rvEq _ _ _ _) | (with_reducible show svEq _ _ _ _) | (with_reducible show cellEq _ _ _ _) | (with_reducible show blkEq _ _ _)); conv => whnf))
    all_goals try simp only [Int.toNat_natCast, Int.toNat_zero, ge_iff_le, gt_iff_lt, Int.ofNat_le, Int.ofNat_lt, Int.ofNat_inj] at *
    all_goals first
      | omega
      | (dsimp only; omega)
      | assumption
      | exact Up.zero _
      | (show ((8 : Nat) : Int) * _ ≤ _; omega)
      | (show _ * (8 : Nat) ≤ _; omega)
      | (show _ * (16 : Nat) ≤ _; omega)
      | (show _ * (24 : Nat) ≤ _; omega)
      | trace_state
  · intro k ⟨hk, hu⟩
    repeat' (first | (intro h; first | exact Bool.noConfusion h | (guard_hyp h : true = true; clear h) | (guard_hyp h : false = false; clear h) | (simp only [decide_eq_true_eq, decide_eq_false_iff_not, beq_iff_eq, beq_eq_false_iff_ne, bne_iff_ne, bne_eq_false_iff_eq, Bool.not_eq_true', Bool.not_eq_false', ne_eq, Classical.not_not, Bool.not_true, Bool.not_false, beqL_iff, beqL_ff, List.cons.injEq, and_true] at h) | skip) | ((conv => whnf) <;> (first | exact True.intro | apply br_rec | apply And.intro | refine CutE.at (A := Nat) (k + 1) ?_ | apply EntP.k0 | apply EntP.k1 | apply EntP.k2 | apply EntP.k3 | apply EntP.k4 | apply EntP.k5 | apply EntP.k6 | apply DrawP.go | (apply AnyP.mk; kernel_rfl) | (refine AggP.go 2 rfl (by kernel_rfl) ?_) | (refine AggP.go 1 rfl (by kernel_rfl) ?_) | (refine AggP.go 3 rfl (by kernel_rfl) ?_) | (refine AggP.go 4 rfl (by kernel_rfl) ?_) | (refine AggP.go 5 rfl (by kernel_rfl) ?_) | (refine AggP.go 8 rfl (by kernel_rfl) ?_) | (refine AggP.go 11 rfl (by kernel_rfl) ?_) | apply CallP.own0 | apply CallP.own1 | apply CallP.own2 | apply CallP.own3 | apply CallP.nb | apply CutE.go0 | apply CutE.go7 | apply CutE.go6 | apply CutE.go5 | apply CutE.go4 | apply CutE.go3 | apply CutE.go2 | apply CutE.go1 | apply RoP.id | apply wrapS | (with_reducible exact lenNil) | apply Eq.refl)) | ((first | (with_reducible show rvEq _ _ _ _) | (with_reducible show svEq _ _ _ _) | (with_reducible show cellEq _ _ _ _) | (with_reducible show blkEq _ _ _)); conv => whnf))
    all_goals try simp only [Int.toNat_natCast] at *
    all_goals first
      | omega
      | exact h3.2 _
      | exact h4.2 _
      | (apply tsoEq_no3; rintro rfl; exact absurd rfl (by assumption))
      | exact hu.succ (by assumption)
      | exact tsoEq_yes hs hd (eq_of_upG hll (k := k) (by omega) hu)
      | trace_state

def newT (ws ts : List Int) (n d : Int) : Tso × Int := if memR ws ts = true then (if sizesF n d = true then ((ws, ts, d, List.replicate n.toNat []), 0) else (tso0, 2)) else (tso0, 1)
def sTNew : FSpec := spec (List Int × List Int × Int × Int) (fun (ws, ts, n, d) => [.agg (memC ws ts), .i n, .i d]) (fun _ => True) fun (ws, ts, n, d) => .tup [rTso (newT ws ts n d).1, .c (.i (newT ws ts n d).2)]
theorem slG_repB {n i t : Nat} (hi : i < n) (ht : t < 1) : slG bufE (List.replicate n []) i t = putsS [] := by
  obtain rfl : t = 0 := by omega
  simp [slG, List.getD_eq_getElem?_getD, List.getElem?_replicate, hi]
theorem sizesF_iff {n d : Int} : sizesF n d = true ↔ (1 ≤ n ∧ n ≤ 8 ∧ 0 ≤ d ∧ d ≤ 8) := decide_eq_true_iff
set_option maxHeartbeats 4000000 in
set_option maxRecDepth 100000 in
theorem tnew_ok : Meets Try.prog 46 sTNew := by
  refine meets_plain T7_ok rfl [] (fn := Try.f46) rfl rfl rfl (by decide) fun ⟨ws, ts, n, d⟩ _ => ?_
  repeat' (first | (intro h; first | exact Bool.noConfusion h | (guard_hyp h : true = true; clear h) | (guard_hyp h : false = false; clear h) | (simp only [decide_eq_true_eq, decide_eq_false_iff_not, beq_iff_eq, beq_eq_false_iff_ne, bne_iff_ne, bne_eq_false_iff_eq, Bool.not_eq_true', Bool.not_eq_false', ne_eq, Classical.not_not, Bool.not_true, Bool.not_false, beqL_iff, beqL_ff, List.cons.injEq, and_true] at h) | skip) | ((conv => whnf) <;> (first | exact True.intro | apply br_rec | apply And.intro | refine NilP.at 2 false (slG encP []) ?_ | apply EntP.k0 | apply EntP.k1 | apply EntP.k2 | apply EntP.k3 | apply EntP.k4 | apply EntP.k5 | apply EntP.k6 | apply DrawP.go | (apply AnyP.mk; kernel_rfl) | (refine AggP.go 2 rfl (by kernel_rfl) ?_) | (refine AggP.go 1 rfl (by kernel_rfl) ?_) | (refine AggP.go 3 rfl (by kernel_rfl) ?_) | (refine AggP.go 4 rfl (by kernel_rfl) ?_) | (refine AggP.go 5 rfl (by kernel_rfl) ?_) | (refine AggP.go 8 rfl (by kernel_rfl) ?_) | (refine AggP.go 11 rfl (by kernel_rfl) ?_) | apply CallP.own0 | apply CallP.own1 | apply CallP.own2 | apply CallP.own3 | apply CallP.nb | apply CutE.go0 | apply CutE.go7 | apply CutE.go6 | apply CutE.go5 | apply CutE.go4 | apply CutE.go3 | apply CutE.go2 | apply CutE.go1 | apply RoP.id | apply wrapS | (with_reducible exact lenNil) | apply Eq.refl)) | ((first | (with_reducible show rvEq _ _ _ _) | (with_reducible show svEq _ _ _ _) | (with_reducible show cellEq _ _ _ _) | (with_reducible show blkEq _ _ _)); conv => whnf))
  all_goals first
    | (have := sizesF_iff.1 (by assumption); omega)
    | (have := sizesF_iff.1 (by assumption); show 24 * _ ≤ _; omega)
    | (simp only [newT, *, ↓reduceIte, Bool.false_eq_true]; done)
    | ((simp only [newT, *, ↓reduceIte, Bool.false_eq_true]) <;> rfl)
    | (rename_i i hi t
       have e : newT ws ts n d = ((ws, ts, d, List.replicate n.toNat []), 0) := (by simp only [newT, *, ↓reduceIte])
       rw [e] at hi ⊢
       have hi : i < (List.replicate n.toNat ([] : List Put)).length := hi
       rw [List.length_replicate] at hi
       obtain rfl : t = 0 := by omega
       exact slG_repB hi (by omega))
    | (simp only [newT, *, ↓reduceIte, Bool.false_eq_true, List.length_replicate]; done)
    | trace_state
def sRTNew : FSpec := spec (List Int × List Int × Int × Int) (fun (ws, ts, n, d) => [.agg (memC ws ts), .i n, .i d]) (fun (_, _, n, _) => 1 ≤ n ∧ n ≤ 8) fun (ws, ts, n, d) => .s (rTso (ws, ts, d, List.replicate n.toNat []))
set_option maxHeartbeats 4000000 in
set_option maxRecDepth 100000 in
theorem rtnew_ok : Meets Try.prog 52 sRTNew := by
  refine meets_plain R2_ok rfl [] (fn := Try.f52) rfl rfl rfl (by decide) fun ⟨ws, ts, n, d⟩ hn => ?_
  have hn : 1 ≤ n ∧ n ≤ 8 := hn
  obtain ⟨c, rfl⟩ : ∃ c : Nat, n = c := ⟨n.toNat, by omega⟩
  repeat' (first | (intro h; first | exact Bool.noConfusion h | (guard_hyp h : true = true; clear h) | (guard_hyp h : false = false; clear h) | (simp only [decide_eq_true_eq, decide_eq_false_iff_not, beq_iff_eq, beq_eq_false_iff_ne, bne_iff_ne, bne_eq_false_iff_eq, Bool.not_eq_true', Bool.not_eq_false', ne_eq, Classical.not_not, Bool.not_true, Bool.not_false, beqL_iff, beqL_ff, List.cons.injEq, and_true] at h) | skip) | ((conv => whnf) <;> (first | exact True.intro | apply br_rec | apply And.intro | apply EntP.k0 | apply EntP.k1 | apply EntP.k2 | apply EntP.k3 | apply EntP.k4 | apply EntP.k5 | apply EntP.k6 | apply DrawP.go | (apply AnyP.mk; kernel_rfl) | (refine AggP.go 2 rfl (by kernel_rfl) ?_) | (refine AggP.go 1 rfl (by kernel_rfl) ?_) | (refine AggP.go 3 rfl (by kernel_rfl) ?_) | (refine AggP.go 4 rfl (by kernel_rfl) ?_) | (refine AggP.go 5 rfl (by kernel_rfl) ?_) | (refine AggP.go 8 rfl (by kernel_rfl) ?_) | (refine AggP.go 11 rfl (by kernel_rfl) ?_) | apply CallP.own0 | apply CallP.own1 | apply CallP.own2 | apply CallP.own3 | apply CallP.nb | apply CutE.go0 | apply CutE.go7 | apply CutE.go6 | apply CutE.go5 | apply CutE.go4 | apply CutE.go3 | apply CutE.go2 | apply CutE.go1 | apply RoP.id | apply wrapS | (with_reducible exact lenNil) | apply Eq.refl)) | ((first | (with_reducible show rvEq _ _ _ _) | (with_reducible show svEq _ _ _ _) | (with_reducible show cellEq _ _ _ _) | (with_reducible show blkEq _ _ _)); conv => whnf))
  apply LoopP.up (G := Nat) (fun k => k ≤ c) [1, 6, 7, 8] (fun k => [(8, .i k)]) (fun k => [(2, .row 64 [intsS ws, intsS ts, .i d, .osl 3]), (3, .slc 22 1 k (slG bufE (List.replicate k [])))]) 4 (fun k => c - k)
  apply And.intro
  · refine CutE.at 0 ⟨EntP.at [⟨true, 2, 3, 22, 1⟩] [0, 1, 2, 3] ?_, ?_⟩
    all_goals repeat' (first | (intro h; first | exact Bool.noConfusion h | (guard_hyp h : true = true; clear h) | (guard_hyp h : false = false; clear h) | (simp only [decide_eq_true_eq, decide_eq_false_iff_not, beq_iff_eq, beq_eq_false_iff_ne, bne_iff_ne, bne_eq_false_iff_eq, Bool.not_eq_true', Bool.not_eq_false', ne_eq, Classical.not_not, Bool.not_true, Bool.not_false, beqL_iff, beqL_ff, List.cons.injEq, and_true] at h) | skip) | ((conv => whnf) <;> (first | exact True.intro | apply br_rec | apply And.intro | apply EntP.k0 | apply EntP.k1 | apply EntP.k2 | apply EntP.k3 | apply EntP.k4 | apply EntP.k5 | apply EntP.k6 | apply DrawP.go | (apply AnyP.mk; kernel_rfl) | (refine AggP.go 2 rfl (by kernel_rfl) ?_) | (refine AggP.go 1 rfl (by kernel_rfl) ?_) | (refine AggP.go 3 rfl (by kernel_rfl) ?_) | (refine AggP.go 4 rfl (by kernel_rfl) ?_) | (refine AggP.go 5 rfl (by kernel_rfl) ?_) | (refine AggP.go 8 rfl (by kernel_rfl) ?_) | (refine AggP.go 11 rfl (by kernel_rfl) ?_) | apply CallP.own0 | apply CallP.own1 | apply CallP.own2 | apply CallP.own3 | apply CallP.nb | apply CutE.go0 | apply CutE.go7 | apply CutE.go6 | apply CutE.go5 | apply CutE.go4 | apply CutE.go3 | apply CutE.go2 | apply CutE.go1 | apply RoP.id | apply wrapS | (with_reducible exact lenNil) | apply Eq.refl)) | ((first | (with_reducible show rvEq _ _ _ _) | (with_reducible show svEq _ _ _ _) | (with_reducible show cellEq _ _ _ _) | (with_reducible show blkEq _ _ _)); conv => whnf))
    all_goals try simp only [Int.toNat_natCast, Int.toNat_zero, ge_iff_le, gt_iff_lt, Int.ofNat_le, Int.ofNat_lt, Int.ofNat_inj] at *
    all_goals first
      | omega
      | (dsimp only; omega)
      | assumption
      | exact Up.zero _
      | (show ((8 : Nat) : Int) * _ ≤ _; omega)
      | (show _ * (8 : Nat) ≤ _; omega)
      | (show _ * (16 : Nat) ≤ _; omega)
      | (show _ * (24 : Nat) ≤ _; omega)
      | trace_state
  · intro k hk
    repeat' (first | (intro h; first | exact Bool.noConfusion h | (guard_hyp h : true = true; clear h) | (guard_hyp h : false = false; clear h) | (simp only [decide_eq_true_eq, decide_eq_false_iff_not, beq_iff_eq, beq_eq_false_iff_ne, bne_iff_ne, bne_eq_false_iff_eq, Bool.not_eq_true', Bool.not_eq_false', ne_eq, Classical.not_not, Bool.not_true, Bool.not_false, beqL_iff, beqL_ff, List.cons.injEq, and_true] at h) | skip) | ((conv => whnf) <;> (first | exact True.intro | apply br_rec | apply And.intro | refine CutE.at (A := Nat) (k + 1) ?_ | refine NilP.at 2 false (slG encP []) ?_ | (refine EntP.at (n := 4) [] [0, 1, 2, 5] ?_) | apply EntP.k0 | apply EntP.k1 | apply EntP.k2 | apply EntP.k3 | apply EntP.k4 | apply EntP.k5 | apply EntP.k6 | apply DrawP.go | (apply AnyP.mk; kernel_rfl) | (refine AggP.go 2 rfl (by kernel_rfl) ?_) | (refine AggP.go 1 rfl (by kernel_rfl) ?_) | (refine AggP.go 3 rfl (by kernel_rfl) ?_) | (refine AggP.go 4 rfl (by kernel_rfl) ?_) | (refine AggP.go 5 rfl (by kernel_rfl) ?_) | (refine AggP.go 8 rfl (by kernel_rfl) ?_) | (refine AggP.go 11 rfl (by kernel_rfl) ?_) | apply CallP.own0 | apply CallP.own1 | apply CallP.own2 | apply CallP.own3 | apply CallP.nb | apply CutE.go0 | apply CutE.go7 | apply CutE.go6 | apply CutE.go5 | apply CutE.go4 | apply CutE.go3 | apply CutE.go2 | apply CutE.go1 | apply RoP.id | apply wrapS | (with_reducible exact lenNil) | apply Eq.refl)) | ((first | (with_reducible show rvEq _ _ _ _) | (with_reducible show svEq _ _ _ _) | (with_reducible show cellEq _ _ _ _) | (with_reducible show blkEq _ _ _)); conv => whnf))
    all_goals try simp only [Int.toNat_natCast, Int.ofNat_lt] at *
    all_goals first
      | omega
      | (show (k + 1) * 24 ≤ _; omega)
      | (show c - (k + 1) < c - k; omega)
      | (show k + 1 ≤ c; omega)
      | (show (List.replicate c ([] : List Put)).length = k; rw [List.length_replicate]; omega)
      | (rw [List.replicate_succ']; exact (slG_snoc (enc := bufE) (k := 1) (x := []) (by simp) rfl _ (by assumption) _ (by assumption)).symm)
      | (rw [show k = c by omega])
      | trace_state

def machT (ws ts : List Int) (d : Int) (l : List (List Put)) : Tso := (ws.take 170, ts.take 170, d, (l.take 10).map (List.take 10))
def sMach : FSpec := spec (List Int × List Int × Int × List (List Put)) (fun (ws, ts, d, l) => [.c (intsS ws), .c (intsS ts), .i d, .c (bufsS l)]) (fun _ => True) fun (ws, ts, d, l) => .s (rTso (machT ws ts d l))
theorem map_takeS {l : List (List Put)} {k : Nat} (hk : k < l.length) : (l.map (List.take 10)).take (k + 1) = (l.map (List.take 10)).take k ++ [(l.getD k default).take 10] := by
  rw [take_getD (d := default) (by simpa using hk)]
  simp [List.getD_eq_getElem?_getD, List.getElem?_map, List.getElem?_eq_getElem hk]
set_option maxHeartbeats 4000000 in
set_option maxRecDepth 100000 in
theorem mach_ok : Meets Try.prog 45 sMach := by
  refine meets_plain (gok_nil _) rfl [] (fn := Try.f45) rfl rfl rfl (by decide) fun ⟨ws, ts, d, l⟩ _ => ?_
  have hl : (l.take 10).length ≤ 10 := List.length_take_le _ _
  repeat' (first | (intro h; first | exact Bool.noConfusion h | (guard_hyp h : true = true; clear h) | (guard_hyp h : false = false; clear h) | (simp only [decide_eq_true_eq, decide_eq_false_iff_not, beq_iff_eq, beq_eq_false_iff_ne, bne_iff_ne, bne_eq_false_iff_eq, Bool.not_eq_true', Bool.not_eq_false', ne_eq, Classical.not_not, Bool.not_true, Bool.not_false, beqL_iff, beqL_ff, List.cons.injEq, and_true] at h) | skip) | ((conv => whnf) <;> (first | exact True.intro | apply br_rec | apply And.intro | apply EntP.k0 | apply EntP.k1 | apply EntP.k2 | apply EntP.k3 | apply EntP.k4 | apply EntP.k5 | apply EntP.k6 | apply DrawP.go | (apply AnyP.mk; kernel_rfl) | (refine AggP.go 2 rfl (by kernel_rfl) ?_) | (refine AggP.go 1 rfl (by kernel_rfl) ?_) | (refine AggP.go 3 rfl (by kernel_rfl) ?_) | (refine AggP.go 4 rfl (by kernel_rfl) ?_) | (refine AggP.go 5 rfl (by kernel_rfl) ?_) | (refine AggP.go 8 rfl (by kernel_rfl) ?_) | (refine AggP.go 11 rfl (by kernel_rfl) ?_) | apply CallP.own0 | apply CallP.own1 | apply CallP.own2 | apply CallP.own3 | apply CallP.nb | apply CutE.go0 | apply CutE.go7 | apply CutE.go6 | apply CutE.go5 | apply CutE.go4 | apply CutE.go3 | apply CutE.go2 | apply CutE.go1 | apply RoP.id | apply wrapS | (with_reducible exact lenNil) | apply Eq.refl)) | ((first | (with_reducible show rvEq _ _ _ _) | (with_reducible show svEq _ _ _ _) | (with_reducible show cellEq _ _ _ _) | (with_reducible show blkEq _ _ _)); conv => whnf))
  all_goals try first
    | omega
    | exact take_lo (m := 170)
    | exact take_hi (m := 170)
    | exact take_lo (m := 10)
    | exact take_hi (m := 10)
  apply LoopP.up (G := Nat) (fun k => k ≤ (l.take 10).length) [8, 9, 29, 30, 31] (fun k => [(29, .s (.c (bufsS (l.take 10)))), (30, .s (.c (.i (l.take 10).length))), (31, .i k)])
    (fun k => [(1, .row 64 [intsS (ws.take 170), intsS (ts.take 170), .i d, .osl 2]), (2, .slc 22 1 k (slG bufE (((l.take 10).map (List.take 10)).take k)))]) 3 (fun k => (l.take 10).length - k)
  apply And.intro
  · refine CutE.at 0 ⟨EntP.at [⟨true, 1, 3, 22, 1⟩] [0, 1, 2] ?_, ?_⟩
    all_goals repeat' (first | (intro h; first | exact Bool.noConfusion h | (guard_hyp h : true = true; clear h) | (guard_hyp h : false = false; clear h) | (simp only [decide_eq_true_eq, decide_eq_false_iff_not, beq_iff_eq, beq_eq_false_iff_ne, bne_iff_ne, bne_eq_false_iff_eq, Bool.not_eq_true', Bool.not_eq_false', ne_eq, Classical.not_not, Bool.not_true, Bool.not_false, beqL_iff, beqL_ff, List.cons.injEq, and_true] at h) | skip) | ((conv => whnf) <;> (first | exact True.intro | apply br_rec | apply And.intro | apply EntP.k0 | apply EntP.k1 | apply EntP.k2 | apply EntP.k3 | apply EntP.k4 | apply EntP.k5 | apply EntP.k6 | apply DrawP.go | (apply AnyP.mk; kernel_rfl) | (refine AggP.go 2 rfl (by kernel_rfl) ?_) | (refine AggP.go 1 rfl (by kernel_rfl) ?_) | (refine AggP.go 3 rfl (by kernel_rfl) ?_) | (refine AggP.go 4 rfl (by kernel_rfl) ?_) | (refine AggP.go 5 rfl (by kernel_rfl) ?_) | (refine AggP.go 8 rfl (by kernel_rfl) ?_) | (refine AggP.go 11 rfl (by kernel_rfl) ?_) | apply CallP.own0 | apply CallP.own1 | apply CallP.own2 | apply CallP.own3 | apply CallP.nb | apply CutE.go0 | apply CutE.go7 | apply CutE.go6 | apply CutE.go5 | apply CutE.go4 | apply CutE.go3 | apply CutE.go2 | apply CutE.go1 | apply RoP.id | apply wrapS | (with_reducible exact lenNil) | apply Eq.refl)) | ((first | (with_reducible show rvEq _ _ _ _) | (with_reducible show svEq _ _ _ _) | (with_reducible show cellEq _ _ _ _) | (with_reducible show blkEq _ _ _)); conv => whnf))
    all_goals first
      | exact take_len (m := 170)
      | exact take_len (m := 10)
      | exact congrArg Nat.cast (take_len (m := 10))
      | (apply take_cell (m := 170); assumption)
      | (apply take_cell (m := 10); assumption)
      | exact Nat.zero_le _
      | (rename_i i hi t; exact absurd hi (Nat.not_lt_zero _))
      | trace_state
  · intro k hk
    have hlm : ((l.take 10).map (List.take 10)).length = (l.take 10).length := List.length_map _
    repeat' (first | (intro h; first | exact Bool.noConfusion h | (guard_hyp h : true = true; clear h) | (guard_hyp h : false = false; clear h) | (simp only [decide_eq_true_eq, decide_eq_false_iff_not, beq_iff_eq, beq_eq_false_iff_ne, bne_iff_ne, bne_eq_false_iff_eq, Bool.not_eq_true', Bool.not_eq_false', ne_eq, Classical.not_not, Bool.not_true, Bool.not_false, beqL_iff, beqL_ff, List.cons.injEq, and_true] at h) | skip) | ((conv => whnf) <;> (first | exact True.intro | apply br_rec | apply And.intro | refine CutE.at (A := Nat) (k + 1) ?_ | refine RoP.at (((l.take 10).getD k default).take 10).length (slG encP (((l.take 10).getD k default).take 10)) ?_ ?_ ?_ | apply EntP.k0 | apply EntP.k1 | apply EntP.k2 | apply EntP.k3 | apply EntP.k4 | apply EntP.k5 | apply EntP.k6 | apply DrawP.go | (apply AnyP.mk; kernel_rfl) | (refine AggP.go 2 rfl (by kernel_rfl) ?_) | (refine AggP.go 1 rfl (by kernel_rfl) ?_) | (refine AggP.go 3 rfl (by kernel_rfl) ?_) | (refine AggP.go 4 rfl (by kernel_rfl) ?_) | (refine AggP.go 5 rfl (by kernel_rfl) ?_) | (refine AggP.go 8 rfl (by kernel_rfl) ?_) | (refine AggP.go 11 rfl (by kernel_rfl) ?_) | apply CallP.own0 | apply CallP.own1 | apply CallP.own2 | apply CallP.own3 | apply CallP.nb | apply CutE.go0 | apply CutE.go7 | apply CutE.go6 | apply CutE.go5 | apply CutE.go4 | apply CutE.go3 | apply CutE.go2 | apply CutE.go1 | apply RoP.id | apply wrapS | (with_reducible exact lenNil) | apply Eq.refl)) | ((first | (with_reducible show rvEq _ _ _ _) | (with_reducible show svEq _ _ _ _) | (with_reducible show cellEq _ _ _ _) | (with_reducible show blkEq _ _ _)); conv => whnf))
    all_goals try simp only [Int.toNat_natCast, Int.ofNat_lt] at *
    all_goals first
      | omega
      | exact take_lo (m := 10)
      | exact take_hi (m := 10)
      | exact (take_len (m := 10)).symm
      | (apply Eq.symm; apply take_cell (m := 10); assumption)
      | (show (k + 1) * 24 ≤ _; omega)
      | (show (l.take 10).length - (k + 1) < (l.take 10).length - k; omega)
      | (show k + 1 ≤ (l.take 10).length; omega)
      | (rw [map_takeS (by omega)]
         refine (slG_snoc (enc := bufE) (k := 1) (n := k) (x := List.take 10 ((List.take 10 l).getD k default)) ?_ rfl _ (by assumption) _ (by assumption)).symm
         rw [List.length_take]; omega)
      | (show ((l.take 10).map (List.take 10)).length = k; omega)
      | (have e : ((l.take 10).map (List.take 10)).take k = (l.take 10).map (List.take 10) := List.take_of_length_le (by omega)
         rw [e]; rfl)
      | trace_state

theorem small2 (a b : List Put) (ha : a.length ≤ 10) (hb : b.length ≤ 10) : ∀ i, ([a, b].getD i default).length ≤ 1000000
  | 0 => by show a.length ≤ _; omega
  | 1 => by show b.length ≤ _; omega
  | i + 2 => Nat.zero_le _
def T8 : List (Nat × FSpec) := (46, sTNew) :: (53, sTStore) :: (54, sTLoad) :: (55, sTFlush) :: (59, sTLock) :: (47, sTsoRight) :: R2
theorem T8_ok : GOK Try.prog (tab T8) := gok_cons tnew_ok (gok_cons tstore_ok (gok_cons tload_ok (gok_cons tflush_ok (gok_cons tlock_ok (gok_cons tsoRight_ok R2_ok)))))
def sTsoAlive : FSpec := sTrue Unit fun _ => []
set_option maxHeartbeats 4000000 in
set_option maxRecDepth 100000 in
theorem tsoAlive_ok : Meets Try.prog 49 sTsoAlive := by
  refine meets_plain T8_ok rfl [] (fn := Try.f49) rfl rfl rfl (by decide) fun _ _ => ?_
  repeat' (first | (intro h; first | exact Bool.noConfusion h | (guard_hyp h : true = true; clear h) | (guard_hyp h : false = false; clear h) | (simp only [decide_eq_true_eq, decide_eq_false_iff_not, beq_iff_eq, beq_eq_false_iff_ne, bne_iff_ne, bne_eq_false_iff_eq, Bool.not_eq_true', Bool.not_eq_false', ne_eq, Classical.not_not, Bool.not_true, Bool.not_false, beqL_iff, beqL_ff, List.cons.injEq, and_true] at h) | skip) | ((conv => whnf) <;> (first | exact True.intro | apply br_rec | apply And.intro | refine CutE.at (([4], [1], 2, 1) : List Int × List Int × Int × Int) ?_ | apply EntP.k0 | apply EntP.k1 | apply EntP.k2 | apply EntP.k3 | apply EntP.k4 | apply EntP.k5 | apply EntP.k6 | apply DrawP.go | (apply AnyP.mk; kernel_rfl) | (refine AggP.go 2 rfl (by kernel_rfl) ?_) | (refine AggP.go 1 rfl (by kernel_rfl) ?_) | (refine AggP.go 3 rfl (by kernel_rfl) ?_) | (refine AggP.go 4 rfl (by kernel_rfl) ?_) | (refine AggP.go 5 rfl (by kernel_rfl) ?_) | (refine AggP.go 8 rfl (by kernel_rfl) ?_) | (refine AggP.go 11 rfl (by kernel_rfl) ?_) | apply CallP.own0 | apply CallP.own1 | apply CallP.own2 | apply CallP.own3 | apply CallP.nb | apply CutE.go0 | apply CutE.go7 | apply CutE.go6 | apply CutE.go5 | apply CutE.go4 | apply CutE.go3 | apply CutE.go2 | apply CutE.go1 | apply RoP.id | apply wrapS | (with_reducible exact lenNil) | apply Eq.refl)) | ((first | (with_reducible show rvEq _ _ _ _) | (with_reducible show svEq _ _ _ _) | (with_reducible show cellEq _ _ _ _) | (with_reducible show blkEq _ _ _)); conv => whnf))
  all_goals first
    | exact (slG_lit (enc := encI) (k := 1) rfl _ (by assumption) _ (by assumption)).symm
    | (show ([[], []] : List (List Put)).length ≤ 1000000; decide)
    | (show ([[(0, 5)], []] : List (List Put)).length ≤ 1000000; decide)
    | exact small2 [] [] (by decide) (by decide) _
    | exact small2 [(0, 5)] [] (by decide) (by decide) _
    | trace_state
end Go.Eng
