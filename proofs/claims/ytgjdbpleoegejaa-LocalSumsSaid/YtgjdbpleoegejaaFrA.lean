/- A thread and its frames: which may be. -/
import Derived.Test.YtgjdbpleoegejaaEngC
import Derived.Test.YtgjdbpleoegejaaProg
set_option linter.unusedVariables false
set_option linter.unusedSimpArgs false
namespace Go.Eng
open Go Go.Proofs

abbrev intsS (l : List Int) : Cell := slC 1 encI l
structure FrT where
  back : Int
  k0 : Int
  k1 : Int
  k2 : Int
  k3 : Int
  deriving DecidableEq, Inhabited
structure Th where
  pc : Int
  r0 : Int
  r1 : Int
  r2 : Int
  r3 : Int
  r4 : Int
  r5 : Int
  r6 : Int
  r7 : Int
  fs : List FrT
  st : Int
  fa : Int
  lf : List Int
  deriving DecidableEq
def encFr (f : FrT) : List Cell := [.i f.back, .i f.k0, .i f.k1, .i f.k2, .i f.k3]
abbrev frsS (l : List FrT) : Cell := slC 5 encFr l
def thC (t : Th) : List Cell := [.i t.pc, .i t.r0, .i t.r1, .i t.r2, .i t.r3, .i t.r4, .i t.r5, .i t.r6, .i t.r7, frsS t.fs, .i t.st, .i t.fa, intsS t.lf]
theorem CutE.goTh {p : Th → Prop} {pc r0 r1 r2 r3 r4 r5 r6 r7 : Int} {fs : List FrT} {st fa : Int} {lf : List Int} (h : p ⟨pc, r0, r1, r2, r3, r4, r5, r6, r7, fs, st, fa, lf⟩) : CutE Th p := ⟨⟨_, h⟩⟩
theorem CutE.goTh1 {A : Type} {p : Th × A → Prop} {pc r0 r1 r2 r3 r4 r5 r6 r7 : Int} {fs : List FrT} {st fa : Int} {lf : List Int} {a : A} (h : p (⟨pc, r0, r1, r2, r3, r4, r5, r6, r7, fs, st, fa, lf⟩, a)) : CutE (Th × A) p := ⟨⟨_, h⟩⟩
theorem CutE.goTh2 {p : Th × Th → Prop} {pc r0 r1 r2 r3 r4 r5 r6 r7 : Int} {fs : List FrT} {st fa : Int} {lf : List Int} {pc' r0' r1' r2' r3' r4' r5' r6' r7' : Int} {fs' : List FrT} {st' fa' : Int} {lf' : List Int}
  (h : p (⟨pc, r0, r1, r2, r3, r4, r5, r6, r7, fs, st, fa, lf⟩, ⟨pc', r0', r1', r2', r3', r4', r5', r6', r7', fs', st', fa', lf'⟩)) : CutE (Th × Th) p := ⟨⟨_, h⟩⟩
theorem CutE.goFr {p : FrT → Prop} {b k0 k1 k2 k3 : Int} (h : p ⟨b, k0, k1, k2, k3⟩) : CutE FrT p := ⟨⟨_, h⟩⟩
def SmallT (t : Th) : Prop := t.fs.length ≤ 1000000 ∧ t.lf.length ≤ 1000000

def placeF (n : Int) : Bool := decide (0 ≤ n ∧ n ≤ 1000)
def badN (n : Int) : Bool := decide (n < 0 ∨ 8 < n)
def idxW {α : Type} (p : α → Bool) : List α → Nat → Int
  | [], _ => -1
  | x :: r, k => if p x = true then k else idxW p r (k + 1)
theorem idxW_any {α : Type} (p : α → Bool) : ∀ (b : List α) (k : Nat), decide (0 ≤ idxW p b k) = b.any p
  | [], _ => rfl
  | x :: r, k => by
    rw [idxW, List.any_cons]
    by_cases h : p x = true
    · rw [if_pos h, h]; simp
    · have h' : p x = false := by simpa using h
      rw [if_neg h, h', idxW_any p r (k + 1)]; rfl
def sPlace : FSpec := spec Int (fun n => [.i n]) (fun _ => True) fun n => .b (placeF n)
def sBadF : FSpec := spec FrT (fun f => [.agg (encFr f)]) (fun _ => True) fun f => .b (!placeF f.back)
def sBadN : FSpec := spec Int (fun n => [.i n]) (fun _ => True) fun n => .b (badN n)
set_option maxHeartbeats 4000000 in
set_option maxRecDepth 100000 in
theorem place_ok : Meets Try.prog 29 sPlace := by
  refine meets_plain (gok_nil _) rfl [] (fn := Try.f29) rfl rfl rfl (by decide) fun n _ => ?_
  repeat' (first | (intro h; first | exact Bool.noConfusion h | (guard_hyp h : true = true; clear h) | (guard_hyp h : false = false; clear h) | (simp only [decide_eq_true_eq, decide_eq_false_iff_not, beq_iff_eq, beq_eq_false_iff_ne, bne_iff_ne, bne_eq_false_iff_eq, Bool.not_eq_true', Bool.not_eq_false', ne_eq, Classical.not_not, Bool.not_true, Bool.not_false, beqL_iff, beqL_ff, List.cons.injEq, and_true] at h) | skip) | ((conv => whnf) <;> (first | exact True.intro | apply br_rec | apply And.intro | apply EntP.k0 | apply EntP.k1 | apply EntP.k2 | apply EntP.k3 | apply EntP.k4 | apply EntP.k5 | apply EntP.k6 | apply DrawP.go | (apply AnyP.mk; kernel_rfl) | (refine AggP.go 2 rfl (by kernel_rfl) ?_) | (refine AggP.go 1 rfl (by kernel_rfl) ?_) | (refine AggP.go 3 rfl (by kernel_rfl) ?_) | (refine AggP.go 4 rfl (by kernel_rfl) ?_) | (refine AggP.go 5 rfl (by kernel_rfl) ?_) | (refine AggP.go 8 rfl (by kernel_rfl) ?_) | (refine AggP.go 11 rfl (by kernel_rfl) ?_) | apply CallP.own0 | apply CallP.own1 | apply CallP.own2 | apply CallP.own3 | apply CallP.nb | apply CutE.go0 | apply CutE.go7 | apply CutE.go6 | apply CutE.go5 | apply CutE.go4 | apply CutE.go3 | apply CutE.go2 | apply CutE.go1 | apply RoP.id | apply wrapS | (with_reducible exact lenNil) | apply Eq.refl)) | ((first | (with_reducible show rvEq _ _ _ _) | (with_reducible show svEq _ _ _ _) | (with_reducible show cellEq _ _ _ _) | (with_reducible show blkEq _ _ _)); conv => whnf))
  all_goals first
    | (show placeF n = _; simp only [placeF]; (first | (apply decide_eq_false; omega) | (apply decide_eq_true; omega) | (congr 1; apply propext; omega)))
    | trace_state
def F1 : List (Nat × FSpec) := [(29, sPlace)]
theorem F1_ok : GOK Try.prog (tab F1) := gok_cons place_ok (gok_nil _)
set_option maxHeartbeats 4000000 in
set_option maxRecDepth 100000 in
theorem badF_ok : Meets Try.prog 33 sBadF := by
  refine meets_plain F1_ok rfl [] (fn := Try.f33) rfl rfl rfl (by decide) fun f _ => ?_
  repeat' (first | (intro h; first | exact Bool.noConfusion h | (guard_hyp h : true = true; clear h) | (guard_hyp h : false = false; clear h) | (simp only [decide_eq_true_eq, decide_eq_false_iff_not, beq_iff_eq, beq_eq_false_iff_ne, bne_iff_ne, bne_eq_false_iff_eq, Bool.not_eq_true', Bool.not_eq_false', ne_eq, Classical.not_not, Bool.not_true, Bool.not_false, beqL_iff, beqL_ff, List.cons.injEq, and_true] at h) | skip) | ((conv => whnf) <;> (first | exact True.intro | apply br_rec | apply And.intro | apply EntP.k0 | apply EntP.k1 | apply EntP.k2 | apply EntP.k3 | apply EntP.k4 | apply EntP.k5 | apply EntP.k6 | apply DrawP.go | (apply AnyP.mk; kernel_rfl) | (refine AggP.go 2 rfl (by kernel_rfl) ?_) | (refine AggP.go 1 rfl (by kernel_rfl) ?_) | (refine AggP.go 3 rfl (by kernel_rfl) ?_) | (refine AggP.go 4 rfl (by kernel_rfl) ?_) | (refine AggP.go 5 rfl (by kernel_rfl) ?_) | (refine AggP.go 8 rfl (by kernel_rfl) ?_) | (refine AggP.go 11 rfl (by kernel_rfl) ?_) | apply CallP.own0 | apply CallP.own1 | apply CallP.own2 | apply CallP.own3 | apply CallP.nb | apply CutE.go0 | apply CutE.go7 | apply CutE.go6 | apply CutE.go5 | apply CutE.go4 | apply CutE.go3 | apply CutE.go2 | apply CutE.go1 | apply RoP.id | apply wrapS | (with_reducible exact lenNil) | apply Eq.refl)) | ((first | (with_reducible show rvEq _ _ _ _) | (with_reducible show svEq _ _ _ _) | (with_reducible show cellEq _ _ _ _) | (with_reducible show blkEq _ _ _)); conv => whnf))
set_option maxHeartbeats 4000000 in
set_option maxRecDepth 100000 in
theorem badN_ok : Meets Try.prog 35 sBadN := by
  refine meets_plain F1_ok rfl [] (fn := Try.f35) rfl rfl rfl (by decide) fun n _ => ?_
  repeat' (first | (intro h; first | exact Bool.noConfusion h | (guard_hyp h : true = true; clear h) | (guard_hyp h : false = false; clear h) | (simp only [decide_eq_true_eq, decide_eq_false_iff_not, beq_iff_eq, beq_eq_false_iff_ne, bne_iff_ne, bne_eq_false_iff_eq, Bool.not_eq_true', Bool.not_eq_false', ne_eq, Classical.not_not, Bool.not_true, Bool.not_false, beqL_iff, beqL_ff, List.cons.injEq, and_true] at h) | skip) | ((conv => whnf) <;> (first | exact True.intro | apply br_rec | apply And.intro | apply EntP.k0 | apply EntP.k1 | apply EntP.k2 | apply EntP.k3 | apply EntP.k4 | apply EntP.k5 | apply EntP.k6 | apply DrawP.go | (apply AnyP.mk; kernel_rfl) | (refine AggP.go 2 rfl (by kernel_rfl) ?_) | (refine AggP.go 1 rfl (by kernel_rfl) ?_) | (refine AggP.go 3 rfl (by kernel_rfl) ?_) | (refine AggP.go 4 rfl (by kernel_rfl) ?_) | (refine AggP.go 5 rfl (by kernel_rfl) ?_) | (refine AggP.go 8 rfl (by kernel_rfl) ?_) | (refine AggP.go 11 rfl (by kernel_rfl) ?_) | apply CallP.own0 | apply CallP.own1 | apply CallP.own2 | apply CallP.own3 | apply CallP.nb | apply CutE.go0 | apply CutE.go7 | apply CutE.go6 | apply CutE.go5 | apply CutE.go4 | apply CutE.go3 | apply CutE.go2 | apply CutE.go1 | apply RoP.id | apply wrapS | (with_reducible exact lenNil) | apply Eq.refl)) | ((first | (with_reducible show rvEq _ _ _ _) | (with_reducible show svEq _ _ _ _) | (with_reducible show cellEq _ _ _ _) | (with_reducible show blkEq _ _ _)); conv => whnf))
  all_goals first
    | (show badN n = _; simp only [badN]; (first | (apply decide_eq_false; omega) | (apply decide_eq_true; omega) | (congr 1; apply propext; omega)))
    | trace_state
def F2 : List (Nat × FSpec) := (33, sBadF) :: (35, sBadN) :: F1
theorem F2_ok : GOK Try.prog (tab F2) := gok_cons badF_ok (gok_cons badN_ok F1_ok)
def badFr (f : FrT) : Bool := !placeF f.back
def sIdxF : FSpec := spec (List FrT) (fun l => [.c (frsS l), .c (.fn 33 [])]) (fun l => l.length ≤ 1000000) fun l => .i (idxW badFr l 0)
def sIdxN : FSpec := spec (List Int) (fun l => [.c (intsS l), .c (.fn 35 [])]) (fun l => l.length ≤ 1000000) fun l => .i (idxW badN l 0)
set_option maxHeartbeats 4000000 in
set_option maxRecDepth 100000 in
theorem idxF_ok : Meets Try.prog 44 sIdxF := by
  refine meets_plain F2_ok rfl [] (fn := Try.f44) rfl rfl rfl (by decide) fun b hb => ?_
  have hb : b.length ≤ 1000000 := hb
  repeat' (first | (intro h; first | exact Bool.noConfusion h | (guard_hyp h : true = true; clear h) | (guard_hyp h : false = false; clear h) | (simp only [decide_eq_true_eq, decide_eq_false_iff_not, beq_iff_eq, beq_eq_false_iff_ne, bne_iff_ne, bne_eq_false_iff_eq, Bool.not_eq_true', Bool.not_eq_false', ne_eq, Classical.not_not, Bool.not_true, Bool.not_false, beqL_iff, beqL_ff, List.cons.injEq, and_true] at h) | skip) | ((conv => whnf) <;> (first | exact True.intro | apply br_rec | apply And.intro | apply EntP.k0 | apply EntP.k1 | apply EntP.k2 | apply EntP.k3 | apply EntP.k4 | apply EntP.k5 | apply EntP.k6 | apply DrawP.go | (apply AnyP.mk; kernel_rfl) | (refine AggP.go 2 rfl (by kernel_rfl) ?_) | (refine AggP.go 1 rfl (by kernel_rfl) ?_) | (refine AggP.go 3 rfl (by kernel_rfl) ?_) | (refine AggP.go 4 rfl (by kernel_rfl) ?_) | (refine AggP.go 5 rfl (by kernel_rfl) ?_) | (refine AggP.go 8 rfl (by kernel_rfl) ?_) | (refine AggP.go 11 rfl (by kernel_rfl) ?_) | apply CallP.own0 | apply CallP.own1 | apply CallP.own2 | apply CallP.own3 | apply CallP.nb | apply CutE.go0 | apply CutE.go7 | apply CutE.go6 | apply CutE.go5 | apply CutE.go4 | apply CutE.go3 | apply CutE.go2 | apply CutE.go1 | apply RoP.id | apply wrapS | (with_reducible exact lenNil) | apply Eq.refl)) | ((first | (with_reducible show rvEq _ _ _ _) | (with_reducible show svEq _ _ _ _) | (with_reducible show cellEq _ _ _ _) | (with_reducible show blkEq _ _ _)); conv => whnf))
  apply LoopP.up (G := Nat) (fun k => k ≤ b.length ∧ idxW badFr b 0 = idxW badFr (b.drop k) k) [0, 1, 7, 8] (fun k => [(8, .i k)]) (fun _ => []) 0 (fun k => b.length - k)
  apply And.intro
  · refine CutE.at 0 ?_
    repeat' (first | (intro h; first | exact Bool.noConfusion h | (guard_hyp h : true = true; clear h) | (guard_hyp h : false = false; clear h) | (simp only [decide_eq_true_eq, decide_eq_false_iff_not, beq_iff_eq, beq_eq_false_iff_ne, bne_iff_ne, bne_eq_false_iff_eq, Bool.not_eq_true', Bool.not_eq_false', ne_eq, Classical.not_not, Bool.not_true, Bool.not_false, beqL_iff, beqL_ff, List.cons.injEq, and_true] at h) | skip) | ((conv => whnf) <;> (first | exact True.intro | apply br_rec | apply And.intro | apply EntP.k0 | apply EntP.k1 | apply EntP.k2 | apply EntP.k3 | apply EntP.k4 | apply EntP.k5 | apply EntP.k6 | apply DrawP.go | (apply AnyP.mk; kernel_rfl) | (refine AggP.go 2 rfl (by kernel_rfl) ?_) | (refine AggP.go 1 rfl (by kernel_rfl) ?_) | (refine AggP.go 3 rfl (by kernel_rfl) ?_) | (refine AggP.go 4 rfl (by kernel_rfl) ?_) | (refine AggP.go 5 rfl (by kernel_rfl) ?_) | (refine AggP.go 8 rfl (by kernel_rfl) ?_) | (refine AggP.go 11 rfl (by kernel_rfl) ?_) | apply CallP.own0 | apply CallP.own1 | apply CallP.own2 | apply CallP.own3 | apply CallP.nb | apply CutE.go0 | apply CutE.go7 | apply CutE.go6 | apply CutE.go5 | apply CutE.go4 | apply CutE.go3 | apply CutE.go2 | apply CutE.go1 | apply RoP.id | apply wrapS | (with_reducible exact lenNil) | apply Eq.refl)) | ((first | (with_reducible show rvEq _ _ _ _) | (with_reducible show svEq _ _ _ _) | (with_reducible show cellEq _ _ _ _) | (with_reducible show blkEq _ _ _)); conv => whnf))
    all_goals try simp only [Int.toNat_natCast, Int.toNat_zero, ge_iff_le, gt_iff_lt, Int.ofNat_le, Int.ofNat_lt, Int.ofNat_inj] at *
    all_goals first
      | omega
      | (dsimp only; omega)
      | assumption
      | exact Up.zero _
      | (show ((8 : Nat) : Int) * _ ≤ _; omega)
      | (show _ * (8 : Nat) ≤ _; omega)
      | (show _ * (16 : Nat) ≤ _; omega)
      | (show _ * (24 : Nat) ≤ _; omega)
      | trace_state
  · intro k ⟨hk, hI⟩
    have hs : k < b.length → idxW badFr (b.drop k) k = if badFr (b.getD k default) = true then (k : Int) else idxW badFr (b.drop (k + 1)) (k + 1) := fun h => by rw [drop_getD (d := default) h, idxW]
    repeat' (first | (intro h; first | exact Bool.noConfusion h | (guard_hyp h : true = true; clear h) | (guard_hyp h : false = false; clear h) | (simp only [decide_eq_true_eq, decide_eq_false_iff_not, beq_iff_eq, beq_eq_false_iff_ne, bne_iff_ne, bne_eq_false_iff_eq, Bool.not_eq_true', Bool.not_eq_false', ne_eq, Classical.not_not, Bool.not_true, Bool.not_false, beqL_iff, beqL_ff, List.cons.injEq, and_true] at h) | skip) | ((conv => whnf) <;> (first | exact True.intro | apply br_rec | apply And.intro | refine CutE.at (A := Nat) (k + 1) ?_ | refine CutE.at (b.getD k default) ?_ | apply EntP.k0 | apply EntP.k1 | apply EntP.k2 | apply EntP.k3 | apply EntP.k4 | apply EntP.k5 | apply EntP.k6 | apply DrawP.go | (apply AnyP.mk; kernel_rfl) | (refine AggP.go 2 rfl (by kernel_rfl) ?_) | (refine AggP.go 1 rfl (by kernel_rfl) ?_) | (refine AggP.go 3 rfl (by kernel_rfl) ?_) | (refine AggP.go 4 rfl (by kernel_rfl) ?_) | (refine AggP.go 5 rfl (by kernel_rfl) ?_) | (refine AggP.go 8 rfl (by kernel_rfl) ?_) | (refine AggP.go 11 rfl (by kernel_rfl) ?_) | apply CallP.own0 | apply CallP.own1 | apply CallP.own2 | apply CallP.own3 | apply CallP.nb | apply CutE.go0 | apply CutE.go7 | apply CutE.go6 | apply CutE.go5 | apply CutE.go4 | apply CutE.go3 | apply CutE.go2 | apply CutE.go1 | apply RoP.id | apply wrapS | (with_reducible exact lenNil) | apply Eq.refl)) | ((first | (with_reducible show rvEq _ _ _ _) | (with_reducible show svEq _ _ _ _) | (with_reducible show cellEq _ _ _ _) | (with_reducible show blkEq _ _ _)); conv => whnf))
    all_goals try simp only [Int.toNat_natCast] at *
    all_goals first
      | omega
      | (rw [hI, hs (by omega), if_pos (show badFr _ = true by rw [badFr, h]; rfl)])
      | (rw [hI, hs (by omega), if_neg (show ¬ badFr _ = true by rw [badFr, h]; simp)])
      | (rw [hI, List.drop_eq_nil_of_le (by omega)]; rfl)
      | trace_state
set_option maxHeartbeats 4000000 in
set_option maxRecDepth 100000 in
theorem idxN_ok : Meets Try.prog 45 sIdxN := by
  refine meets_plain F2_ok rfl [] (fn := Try.f45) rfl rfl rfl (by decide) fun b hb => ?_
  have hb : b.length ≤ 1000000 := hb
  repeat' (first | (intro h; first | exact Bool.noConfusion h | (guard_hyp h : true = true; clear h) | (guard_hyp h : false = false; clear h) | (simp only [decide_eq_true_eq, decide_eq_false_iff_not, beq_iff_eq, beq_eq_false_iff_ne, bne_iff_ne, bne_eq_false_iff_eq, Bool.not_eq_true', Bool.not_eq_false', ne_eq, Classical.not_not, Bool.not_true, Bool.not_false, beqL_iff, beqL_ff, List.cons.injEq, and_true] at h) | skip) | ((conv => whnf) <;> (first | exact True.intro | apply br_rec | apply And.intro | apply EntP.k0 | apply EntP.k1 | apply EntP.k2 | apply EntP.k3 | apply EntP.k4 | apply EntP.k5 | apply EntP.k6 | apply DrawP.go | (apply AnyP.mk; kernel_rfl) | (refine AggP.go 2 rfl (by kernel_rfl) ?_) | (refine AggP.go 1 rfl (by kernel_rfl) ?_) | (refine AggP.go 3 rfl (by kernel_rfl) ?_) | (refine AggP.go 4 rfl (by kernel_rfl) ?_) | (refine AggP.go 5 rfl (by kernel_rfl) ?_) | (refine AggP.go 8 rfl (by kernel_rfl) ?_) | (refine AggP.go 11 rfl (by kernel_rfl) ?_) | apply CallP.own0 | apply CallP.own1 | apply CallP.own2 | apply CallP.own3 | apply CallP.nb | apply CutE.go0 | apply CutE.go7 | apply CutE.go6 | apply CutE.go5 | apply CutE.go4 | apply CutE.go3 | apply CutE.go2 | apply CutE.go1 | apply RoP.id | apply wrapS | (with_reducible exact lenNil) | apply Eq.refl)) | ((first | (with_reducible show rvEq _ _ _ _) | (with_reducible show svEq _ _ _ _) | (with_reducible show cellEq _ _ _ _) | (with_reducible show blkEq _ _ _)); conv => whnf))
  apply LoopP.up (G := Nat) (fun k => k ≤ b.length ∧ idxW badN b 0 = idxW badN (b.drop k) k) [0, 1, 7, 8] (fun k => [(8, .i k)]) (fun _ => []) 0 (fun k => b.length - k)
  apply And.intro
  · refine CutE.at 0 ?_
    repeat' (first | (intro h; first | exact Bool.noConfusion h | (guard_hyp h : true = true; clear h) | (guard_hyp h : false = false; clear h) | (simp only [decide_eq_true_eq, decide_eq_false_iff_not, beq_iff_eq, beq_eq_false_iff_ne, bne_iff_ne, bne_eq_false_iff_eq, Bool.not_eq_true', Bool.not_eq_false', ne_eq, Classical.not_not, Bool.not_true, Bool.not_false, beqL_iff, beqL_ff, List.cons.injEq, and_true] at h) | skip) | ((conv => whnf) <;> (first | exact True.intro | apply br_rec | apply And.intro | apply EntP.k0 | apply EntP.k1 | apply EntP.k2 | apply EntP.k3 | apply EntP.k4 | apply EntP.k5 | apply EntP.k6 | apply DrawP.go | (apply AnyP.mk; kernel_rfl) | (refine AggP.go 2 rfl (by kernel_rfl) ?_) | (refine AggP.go 1 rfl (by kernel_rfl) ?_) | (refine AggP.go 3 rfl (by kernel_rfl) ?_) | (refine AggP.go 4 rfl (by kernel_rfl) ?_) | (refine AggP.go 5 rfl (by kernel_rfl) ?_) | (refine AggP.go 8 rfl (by kernel_rfl) ?_) | (refine AggP.go 11 rfl (by kernel_rfl) ?_) | apply CallP.own0 | apply CallP.own1 | apply CallP.own2 | apply CallP.own3 | apply CallP.nb | apply CutE.go0 | apply CutE.go7 | apply CutE.go6 | apply CutE.go5 | apply CutE.go4 | apply CutE.go3 | apply CutE.go2 | apply CutE.go1 | apply RoP.id | apply wrapS | (with_reducible exact lenNil) | apply Eq.refl)) | ((first | (with_reducible show rvEq _ _ _ _) | (with_reducible show svEq _ _ _ _) | (with_reducible show cellEq _ _ _ _) | (with_reducible show blkEq _ _ _)); conv => whnf))
    all_goals try simp only [Int.toNat_natCast, Int.toNat_zero, ge_iff_le, gt_iff_lt, Int.ofNat_le, Int.ofNat_lt, Int.ofNat_inj] at *
    all_goals first
      | omega
      | (dsimp only; omega)
      | assumption
      | exact Up.zero _
      | (show ((8 : Nat) : Int) * _ ≤ _; omega)
      | (show _ * (8 : Nat) ≤ _; omega)
      | (show _ * (16 : Nat) ≤ _; omega)
      | (show _ * (24 : Nat) ≤ _; omega)
      | trace_state
  · intro k ⟨hk, hI⟩
    have hs : k < b.length → idxW badN (b.drop k) k = if badN (b.getD k default) = true then (k : Int) else idxW badN (b.drop (k + 1)) (k + 1) := fun h => by rw [drop_getD (d := default) h, idxW]
    repeat' (first | (intro h; first | exact Bool.noConfusion h | (guard_hyp h : true = true; clear h) | (guard_hyp h : false = false; clear h) | (simp only [decide_eq_true_eq, decide_eq_false_iff_not, beq_iff_eq, beq_eq_false_iff_ne, bne_iff_ne, bne_eq_false_iff_eq, Bool.not_eq_true', Bool.not_eq_false', ne_eq, Classical.not_not, Bool.not_true, Bool.not_false, beqL_iff, beqL_ff, List.cons.injEq, and_true] at h) | skip) | ((conv => whnf) <;> (first | exact True.intro | apply br_rec | apply And.intro | refine CutE.at (A := Nat) (k + 1) ?_ | apply EntP.k0 | apply EntP.k1 | apply EntP.k2 | apply EntP.k3 | apply EntP.k4 | apply EntP.k5 | apply EntP.k6 | apply DrawP.go | (apply AnyP.mk; kernel_rfl) | (refine AggP.go 2 rfl (by kernel_rfl) ?_) | (refine AggP.go 1 rfl (by kernel_rfl) ?_) | (refine AggP.go 3 rfl (by kernel_rfl) ?_) | (refine AggP.go 4 rfl (by kernel_rfl) ?_) | (refine AggP.go 5 rfl (by kernel_rfl) ?_) | (refine AggP.go 8 rfl (by kernel_rfl) ?_) | (refine AggP.go 11 rfl (by kernel_rfl) ?_) | apply CallP.own0 | apply CallP.own1 | apply CallP.own2 | apply CallP.own3 | apply CallP.nb | apply CutE.go0 | apply CutE.go7 | apply CutE.go6 | apply CutE.go5 | apply CutE.go4 | apply CutE.go3 | apply CutE.go2 | apply CutE.go1 | apply RoP.id | apply wrapS | (with_reducible exact lenNil) | apply Eq.refl)) | ((first | (with_reducible show rvEq _ _ _ _) | (with_reducible show svEq _ _ _ _) | (with_reducible show cellEq _ _ _ _) | (with_reducible show blkEq _ _ _)); conv => whnf))
    all_goals try simp only [Int.toNat_natCast] at *
    all_goals first
      | omega
      | (rw [hI, hs (by omega), if_pos h])
      | (rw [hI, hs (by omega), h]; rfl)
      | (rw [hI, List.drop_eq_nil_of_le (by omega)]; rfl)
      | trace_state
end Go.Eng
