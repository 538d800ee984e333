/- A pool: sizes; rows of numbers, searched, copied and turned about. -/
import Derived.Test.YtmjogckeaaaicaaPoIter
set_option linter.unusedVariables false
set_option linter.unusedSimpArgs false
namespace Go.Eng
open Go Go.Proofs

def inF (n lo hi : Int) : Bool := decide (lo ≤ n ∧ n ≤ hi)
theorem inF_t {n lo hi : Int} (h : lo ≤ n ∧ n ≤ hi) : inF n lo hi = true := decide_eq_true h
theorem inF_f {n lo hi : Int} (h : ¬ (lo ≤ n ∧ n ≤ hi)) : inF n lo hi = false := decide_eq_false h
theorem inF_iff {n lo hi : Int} : inF n lo hi = true ↔ lo ≤ n ∧ n ≤ hi := decide_eq_true_iff
def sIn : FSpec := spec (Int × Int × Int) (fun (n, lo, hi) => [.i n, .i lo, .i hi]) (fun _ => True) fun (n, lo, hi) => .b (inF n lo hi)
set_option maxHeartbeats 4000000 in
set_option maxRecDepth 100000 in
theorem in_ok : Meets Try.prog 57 sIn := by
  refine meets_plain (gok_nil _) rfl [] (fn := Try.f57) rfl rfl rfl (by decide) fun ⟨n, lo, hi⟩ _ => ?_
  repeat' (first | (intro h; first | exact Bool.noConfusion h | (guard_hyp h : true = true; clear h) | (guard_hyp h : false = false; clear h) | (simp only [decide_eq_true_eq, decide_eq_false_iff_not, beq_iff_eq, beq_eq_false_iff_ne, bne_iff_ne, bne_eq_false_iff_eq, Bool.not_eq_true', Bool.not_eq_false', ne_eq, Classical.not_not, Bool.not_true, Bool.not_false, beqL_iff, beqL_ff, List.cons.injEq, and_true] at h) | skip) | ((conv => whnf) <;> (first | exact True.intro | apply br_rec | apply And.intro | apply EntP.k0 | apply EntP.k1 | apply EntP.k2 | apply EntP.k3 | apply EntP.k4 | apply EntP.k5 | apply EntP.k6 | apply DrawP.go | (apply AnyP.mk; kernel_rfl) | (refine AggP.go 2 rfl (by kernel_rfl) ?_) | (refine AggP.go 1 rfl (by kernel_rfl) ?_) | (refine AggP.go 3 rfl (by kernel_rfl) ?_) | (refine AggP.go 4 rfl (by kernel_rfl) ?_) | (refine AggP.go 5 rfl (by kernel_rfl) ?_) | (refine AggP.go 8 rfl (by kernel_rfl) ?_) | (refine AggP.go 11 rfl (by kernel_rfl) ?_) | apply CallP.own0 | apply CallP.own1 | apply CallP.own2 | apply CallP.own3 | apply CallP.nb | apply CutE.go0 | apply CutE.go7 | apply CutE.go6 | apply CutE.go5 | apply CutE.go4 | apply CutE.go3 | apply CutE.go2 | apply CutE.go1 | apply RoP.id | apply wrapS | (with_reducible exact lenNil) | apply Eq.refl)) | ((first | (with_reducible show rvEq _ _ _ _) | (with_reducible show svEq _ _ _ _) | (with_reducible show cellEq _ _ _ _) | (with_reducible show blkEq _ _ _)); conv => whnf))
  all_goals first
    | (show inF n lo hi = _; simp only [inF]; (first | (apply decide_eq_false; omega) | (apply decide_eq_true; omega) | (congr 1; apply propext; omega)))
    | trace_state
/-- May such a pool be? -/
def sizeP (s b m : Int) : Bool := decide (1 ≤ s ∧ s ≤ 8 ∧ 0 ≤ m ∧ m ≤ 16 ∧ 1 ≤ b ∧ b ≤ 160 ∧ b + s * m ≤ 160)
theorem prod_le {s m : Int} (h : 1 ≤ s ∧ s ≤ 8) (k : 0 ≤ m ∧ m ≤ 16) : 0 ≤ s * m ∧ s * m ≤ 128 := by
  have h1 : s * m ≤ 8 * 16 := Int.mul_le_mul h.2 k.2 k.1 (by omega)
  have h2 : 0 ≤ s * m := Int.mul_nonneg (by omega) k.1
  omega
theorem sizeP_ok {s b m : Int} (h : sizeP s b m = true) (l : List Int) : PlOk (s, b, m, l) := by
  obtain ⟨h1, h2, h3, h4, h5, h6, _⟩ := of_decide_eq_true h
  exact ⟨h1, h2, h5, h6, h3, h4⟩
def sSizes : FSpec := spec Pl (fun p => [.agg (plC p)]) (fun _ => True) fun p => .b (sizeP p.1 p.2.1 p.2.2.1)
theorem sIn_ok : GOK Try.prog (tab [(57, sIn)]) := gok_cons in_ok (gok_nil _)
set_option maxHeartbeats 4000000 in
set_option maxRecDepth 100000 in
theorem sizes_ok : Meets Try.prog 46 sSizes := by
  refine meets_plain sIn_ok rfl [] (fn := Try.f46) rfl rfl rfl (by decide) fun ⟨s, b, m, l⟩ _ => ?_
  have hw : 1 ≤ s ∧ s ≤ 8 → 0 ≤ m ∧ m ≤ 16 → 1 ≤ b ∧ b ≤ 160 → IntKind.i64.wrap (b + IntKind.i64.wrap (s * m)) = b + s * m := fun h1 h2 h3 => by
    have := prod_le h1 h2
    rw [wrap_i64 (x := s * m) (by omega), wrap_i64 (by omega)]
  repeat' (first | (intro h; first | exact Bool.noConfusion h | (guard_hyp h : true = true; clear h) | (guard_hyp h : false = false; clear h) | (simp only [decide_eq_true_eq, decide_eq_false_iff_not, beq_iff_eq, beq_eq_false_iff_ne, bne_iff_ne, bne_eq_false_iff_eq, Bool.not_eq_true', Bool.not_eq_false', ne_eq, Classical.not_not, Bool.not_true, Bool.not_false, beqL_iff, beqL_ff, List.cons.injEq, and_true] at h) | skip) | ((conv => whnf) <;> (first | exact True.intro | apply br_rec | apply And.intro | apply EntP.k0 | apply EntP.k1 | apply EntP.k2 | apply EntP.k3 | apply EntP.k4 | apply EntP.k5 | apply EntP.k6 | apply DrawP.go | (apply AnyP.mk; kernel_rfl) | (refine AggP.go 2 rfl (by kernel_rfl) ?_) | (refine AggP.go 1 rfl (by kernel_rfl) ?_) | (refine AggP.go 3 rfl (by kernel_rfl) ?_) | (refine AggP.go 4 rfl (by kernel_rfl) ?_) | (refine AggP.go 5 rfl (by kernel_rfl) ?_) | (refine AggP.go 8 rfl (by kernel_rfl) ?_) | (refine AggP.go 11 rfl (by kernel_rfl) ?_) | apply CallP.own0 | apply CallP.own1 | apply CallP.own2 | apply CallP.own3 | apply CallP.nb | apply CutE.go0 | apply CutE.go7 | apply CutE.go6 | apply CutE.go5 | apply CutE.go4 | apply CutE.go3 | apply CutE.go2 | apply CutE.go1 | apply RoP.id | apply wrapS | (with_reducible exact lenNil) | apply Eq.refl)) | ((first | (with_reducible show rvEq _ _ _ _) | (with_reducible show svEq _ _ _ _) | (with_reducible show cellEq _ _ _ _) | (with_reducible show blkEq _ _ _)); conv => whnf))
  all_goals first
    | (show sizeP s b m = false; apply decide_eq_false; rintro ⟨h1, h2, h3, h4, h5, h6, h7⟩; first | exact Bool.noConfusion ((inF_t ⟨h1, h2⟩).symm.trans (show inF s 1 8 = false by assumption)) | exact Bool.noConfusion ((inF_t ⟨h3, h4⟩).symm.trans (show inF m 0 16 = false by assumption)) | exact Bool.noConfusion ((inF_t ⟨h5, h6⟩).symm.trans (show inF b 1 160 = false by assumption)))
    | (have g1 := inF_iff.1 (show inF s 1 8 = true by assumption)
       have g2 := inF_iff.1 (show inF m 0 16 = true by assumption)
       have g3 := inF_iff.1 (show inF b 1 160 = true by assumption)
       show sizeP s b m = decide _
       rw [hw g1 g2 g3]
       unfold sizeP
       congr 1
       apply propext
       exact ⟨fun h => h.2.2.2.2.2.2, fun h => ⟨g1.1, g1.2, g2.1, g2.2, g3.1, g3.2, h⟩⟩)
    | trace_state

def idxF (v : Int) : List Int → Nat → Int
  | [], _ => -1
  | x :: r, k => if v = x then k else idxF v r (k + 1)
theorem idxF_any (v : Int) : ∀ (b : List Int) (k : Nat), decide (0 ≤ idxF v b k) = b.contains v
  | [], _ => rfl
  | x :: r, k => by
    rw [idxF, List.contains_cons]
    by_cases h : v = x
    · rw [if_pos h]; simp [h]
    · rw [if_neg h, idxF_any v r (k + 1)]; simp [h]
def sIdx : FSpec := spec (List Int × Int) (fun (l, v) => [.c (intsS l), .i v]) (fun (l, _) => l.length ≤ 1000000) fun (l, v) => .i (idxF v l 0)
def sCont : FSpec := spec (List Int × Int) (fun (l, v) => [.c (intsS l), .i v]) (fun (l, _) => l.length ≤ 1000000) fun (l, v) => .b (l.contains v)
set_option maxHeartbeats 4000000 in
set_option maxRecDepth 100000 in
theorem idx_ok : Meets Try.prog 60 sIdx := by
  refine meets_plain (gok_nil _) rfl [] (fn := Try.f60) rfl rfl rfl (by decide) fun ⟨b, v⟩ hb => ?_
  have hb : b.length ≤ 1000000 := hb
  repeat' (first | (intro h; first | exact Bool.noConfusion h | (guard_hyp h : true = true; clear h) | (guard_hyp h : false = false; clear h) | (simp only [decide_eq_true_eq, decide_eq_false_iff_not, beq_iff_eq, beq_eq_false_iff_ne, bne_iff_ne, bne_eq_false_iff_eq, Bool.not_eq_true', Bool.not_eq_false', ne_eq, Classical.not_not, Bool.not_true, Bool.not_false, beqL_iff, beqL_ff, List.cons.injEq, and_true] at h) | skip) | ((conv => whnf) <;> (first | exact True.intro | apply br_rec | apply And.intro | apply EntP.k0 | apply EntP.k1 | apply EntP.k2 | apply EntP.k3 | apply EntP.k4 | apply EntP.k5 | apply EntP.k6 | apply DrawP.go | (apply AnyP.mk; kernel_rfl) | (refine AggP.go 2 rfl (by kernel_rfl) ?_) | (refine AggP.go 1 rfl (by kernel_rfl) ?_) | (refine AggP.go 3 rfl (by kernel_rfl) ?_) | (refine AggP.go 4 rfl (by kernel_rfl) ?_) | (refine AggP.go 5 rfl (by kernel_rfl) ?_) | (refine AggP.go 8 rfl (by kernel_rfl) ?_) | (refine AggP.go 11 rfl (by kernel_rfl) ?_) | apply CallP.own0 | apply CallP.own1 | apply CallP.own2 | apply CallP.own3 | apply CallP.nb | apply CutE.go0 | apply CutE.go7 | apply CutE.go6 | apply CutE.go5 | apply CutE.go4 | apply CutE.go3 | apply CutE.go2 | apply CutE.go1 | apply RoP.id | apply wrapS | (with_reducible exact lenNil) | apply Eq.refl)) | ((first | (with_reducible show rvEq _ _ _ _) | (with_reducible show svEq _ _ _ _) | (with_reducible show cellEq _ _ _ _) | (with_reducible show blkEq _ _ _)); conv => whnf))
  apply LoopP.up (G := Nat) (fun k => k ≤ b.length ∧ idxF v b 0 = idxF v (b.drop k) k) [0, 1, 7, 8] (fun k => [(8, .i k)]) (fun _ => []) 0 (fun k => b.length - k)
  apply And.intro
  · refine CutE.at 0 ?_
    repeat' (first | (intro h; first | exact Bool.noConfusion h | (guard_hyp h : true = true; clear h) | (guard_hyp h : false = false; clear h) | (simp only [decide_eq_true_eq, decide_eq_false_iff_not, beq_iff_eq, beq_eq_false_iff_ne, bne_iff_ne, bne_eq_false_iff_eq, Bool.not_eq_true', Bool.not_eq_false', ne_eq, Classical.not_not, Bool.not_true, Bool.not_false, beqL_iff, beqL_ff, List.cons.injEq, and_true] at h) | skip) | ((conv => whnf) <;> (first | exact True.intro | apply br_rec | apply And.intro | apply EntP.k0 | apply EntP.k1 | apply EntP.k2 | apply EntP.k3 | apply EntP.k4 | apply EntP.k5 | apply EntP.k6 | apply DrawP.go | (apply AnyP.mk; kernel_rfl) | (refine AggP.go 2 rfl (by kernel_rfl) ?_) | (refine AggP.go 1 rfl (by kernel_rfl) ?_) | (refine AggP.go 3 rfl (by kernel_rfl) ?_) | (refine AggP.go 4 rfl (by kernel_rfl) ?_) | (refine AggP.go 5 rfl (by kernel_rfl) ?_) | (refine AggP.go 8 rfl (by kernel_rfl) ?_) | (refine AggP.go 11 rfl (by kernel_rfl) ?_) | apply CallP.own0 | apply CallP.own1 | apply CallP.own2 | apply CallP.own3 | apply CallP.nb | apply CutE.go0 | apply CutE.go7 | apply CutE.go6 | apply CutE.go5 | apply CutE.go4 | apply CutE.go3 | apply CutE.go2 | apply CutE.go1 | apply RoP.id | apply wrapS | (with_reducible exact lenNil) | apply Eq.refl)) | ((first | (with_reducible show rvEq _ _ _ _) | (with_reducible show svEq _ _ _ _) | (with_reducible show cellEq _ _ _ _) | (with_reducible show blkEq _ _ _)); conv => whnf))
    all_goals try simp only [Int.toNat_natCast, Int.toNat_zero, ge_iff_le, gt_iff_lt, Int.ofNat_le, Int.ofNat_lt, Int.ofNat_inj] at *
    all_goals first
      | omega
      | (dsimp only; omega)
      | assumption
      | exact Up.zero _
      | (show ((8 : Nat) : Int) * _ ≤ _; omega)
      | (show _ * (8 : Nat) ≤ _; omega)
      | (show _ * (16 : Nat) ≤ _; omega)
      | (show _ * (24 : Nat) ≤ _; omega)
      | trace_state
  · intro k ⟨hk, hI⟩
    have hs : k < b.length → idxF v (b.drop k) k = if v = b.getD k default then (k : Int) else idxF v (b.drop (k + 1)) (k + 1) := fun h => by rw [drop_getD (d := default) h, idxF]
    repeat' (first | (intro h; first | exact Bool.noConfusion h | (guard_hyp h : true = true; clear h) | (guard_hyp h : false = false; clear h) | (simp only [decide_eq_true_eq, decide_eq_false_iff_not, beq_iff_eq, beq_eq_false_iff_ne, bne_iff_ne, bne_eq_false_iff_eq, Bool.not_eq_true', Bool.not_eq_false', ne_eq, Classical.not_not, Bool.not_true, Bool.not_false, beqL_iff, beqL_ff, List.cons.injEq, and_true] at h) | skip) | ((conv => whnf) <;> (first | exact True.intro | apply br_rec | apply And.intro | refine CutE.at (A := Nat) (k + 1) ?_ | apply EntP.k0 | apply EntP.k1 | apply EntP.k2 | apply EntP.k3 | apply EntP.k4 | apply EntP.k5 | apply EntP.k6 | apply DrawP.go | (apply AnyP.mk; kernel_rfl) | (refine AggP.go 2 rfl (by kernel_rfl) ?_) | (refine AggP.go 1 rfl (by kernel_rfl) ?_) | (refine AggP.go 3 rfl (by kernel_rfl) ?_) | (refine AggP.go 4 rfl (by kernel_rfl) ?_) | (refine AggP.go 5 rfl (by kernel_rfl) ?_) | (refine AggP.go 8 rfl (by kernel_rfl) ?_) | (refine AggP.go 11 rfl (by kernel_rfl) ?_) | apply CallP.own0 | apply CallP.own1 | apply CallP.own2 | apply CallP.own3 | apply CallP.nb | apply CutE.go0 | apply CutE.go7 | apply CutE.go6 | apply CutE.go5 | apply CutE.go4 | apply CutE.go3 | apply CutE.go2 | apply CutE.go1 | apply RoP.id | apply wrapS | (with_reducible exact lenNil) | apply Eq.refl)) | ((first | (with_reducible show rvEq _ _ _ _) | (with_reducible show svEq _ _ _ _) | (with_reducible show cellEq _ _ _ _) | (with_reducible show blkEq _ _ _)); conv => whnf))
    all_goals try simp only [Int.toNat_natCast] at *
    all_goals first
      | omega
      | (rw [hI, hs (by omega), if_pos (by assumption)])
      | (rw [hI, hs (by omega), if_neg (by assumption)])
      | (rw [hI, List.drop_eq_nil_of_le (by omega)]; rfl)
      | trace_state
set_option maxHeartbeats 4000000 in
set_option maxRecDepth 100000 in
theorem cont_ok : Meets Try.prog 51 sCont := by
  refine meets_plain (gok_cons idx_ok (gok_nil _) : GOK Try.prog (tab [(60, sIdx)])) rfl [] (fn := Try.f51) rfl rfl rfl (by decide) fun ⟨b, v⟩ hb => ?_
  have hi := idxF_any v b 0
  repeat' (first | (intro h; first | exact Bool.noConfusion h | (guard_hyp h : true = true; clear h) | (guard_hyp h : false = false; clear h) | (simp only [decide_eq_true_eq, decide_eq_false_iff_not, beq_iff_eq, beq_eq_false_iff_ne, bne_iff_ne, bne_eq_false_iff_eq, Bool.not_eq_true', Bool.not_eq_false', ne_eq, Classical.not_not, Bool.not_true, Bool.not_false, beqL_iff, beqL_ff, List.cons.injEq, and_true] at h) | skip) | ((conv => whnf) <;> (first | exact True.intro | apply br_rec | apply And.intro | apply EntP.k0 | apply EntP.k1 | apply EntP.k2 | apply EntP.k3 | apply EntP.k4 | apply EntP.k5 | apply EntP.k6 | apply DrawP.go | (apply AnyP.mk; kernel_rfl) | (refine AggP.go 2 rfl (by kernel_rfl) ?_) | (refine AggP.go 1 rfl (by kernel_rfl) ?_) | (refine AggP.go 3 rfl (by kernel_rfl) ?_) | (refine AggP.go 4 rfl (by kernel_rfl) ?_) | (refine AggP.go 5 rfl (by kernel_rfl) ?_) | (refine AggP.go 8 rfl (by kernel_rfl) ?_) | (refine AggP.go 11 rfl (by kernel_rfl) ?_) | apply CallP.own0 | apply CallP.own1 | apply CallP.own2 | apply CallP.own3 | apply CallP.nb | apply CutE.go0 | apply CutE.go7 | apply CutE.go6 | apply CutE.go5 | apply CutE.go4 | apply CutE.go3 | apply CutE.go2 | apply CutE.go1 | apply RoP.id | apply wrapS | (with_reducible exact lenNil) | apply Eq.refl)) | ((first | (with_reducible show rvEq _ _ _ _) | (with_reducible show svEq _ _ _ _) | (with_reducible show cellEq _ _ _ _) | (with_reducible show blkEq _ _ _)); conv => whnf))
  all_goals first
    | exact hb
    | exact hi.symm
    | trace_state
def sClip : FSpec := spec (List Int) (fun l => [.c (intsS l)]) (fun l => l.length ≤ 1000000) fun l => .c (.ro l.length 1 true (slG encI l))
def sClone : FSpec := spec (List Int) (fun l => [.c (intsS l)]) (fun l => l.length ≤ 1000000) fun l => .c (intsS l)
set_option maxHeartbeats 2000000 in
set_option maxRecDepth 100000 in
theorem clip_ok : Meets Try.prog 53 sClip := by
  refine meets_plain (gok_nil _) rfl [] (fn := Try.f53) rfl rfl rfl (by decide) fun l hl => ?_
  repeat' (first | (intro h; first | exact Bool.noConfusion h | (guard_hyp h : true = true; clear h) | (guard_hyp h : false = false; clear h) | (simp only [decide_eq_true_eq, decide_eq_false_iff_not, beq_iff_eq, beq_eq_false_iff_ne, bne_iff_ne, bne_eq_false_iff_eq, Bool.not_eq_true', Bool.not_eq_false', ne_eq, Classical.not_not, Bool.not_true, Bool.not_false, beqL_iff, beqL_ff, List.cons.injEq, and_true] at h) | skip) | ((conv => whnf) <;> (first | exact True.intro | apply br_rec | apply And.intro | apply EntP.k0 | apply EntP.k1 | apply EntP.k2 | apply EntP.k3 | apply EntP.k4 | apply EntP.k5 | apply EntP.k6 | apply DrawP.go | (apply AnyP.mk; kernel_rfl) | (refine AggP.go 2 rfl (by kernel_rfl) ?_) | (refine AggP.go 1 rfl (by kernel_rfl) ?_) | (refine AggP.go 3 rfl (by kernel_rfl) ?_) | (refine AggP.go 4 rfl (by kernel_rfl) ?_) | (refine AggP.go 5 rfl (by kernel_rfl) ?_) | (refine AggP.go 8 rfl (by kernel_rfl) ?_) | (refine AggP.go 11 rfl (by kernel_rfl) ?_) | apply CallP.own0 | apply CallP.own1 | apply CallP.own2 | apply CallP.own3 | apply CallP.nb | apply CutE.go0 | apply CutE.go7 | apply CutE.go6 | apply CutE.go5 | apply CutE.go4 | apply CutE.go3 | apply CutE.go2 | apply CutE.go1 | apply RoP.id | apply wrapS | (with_reducible exact lenNil) | apply Eq.refl)) | ((first | (with_reducible show rvEq _ _ _ _) | (with_reducible show svEq _ _ _ _) | (with_reducible show cellEq _ _ _ _) | (with_reducible show blkEq _ _ _)); conv => whnf))
  all_goals first
    | omega
    | (show l.length = (((l.length : Int) - 0).toNat); omega)
    | (show slG encI l _ _ = slG encI l (0 + _) _; rw [Nat.zero_add])
    | trace_state
set_option maxHeartbeats 2000000 in
set_option maxRecDepth 100000 in
theorem clone_ok : Meets Try.prog 54 sClone := by
  refine meets_plain (gok_nil _) rfl [] (fn := Try.f54) rfl rfl rfl (by decide) fun l hl => ?_
  have hl : l.length ≤ 1000000 := hl
  repeat' (first | (intro h; first | exact Bool.noConfusion h | (guard_hyp h : true = true; clear h) | (guard_hyp h : false = false; clear h) | (simp only [decide_eq_true_eq, decide_eq_false_iff_not, beq_iff_eq, beq_eq_false_iff_ne, bne_iff_ne, bne_eq_false_iff_eq, Bool.not_eq_true', Bool.not_eq_false', ne_eq, Classical.not_not, Bool.not_true, Bool.not_false, beqL_iff, beqL_ff, List.cons.injEq, and_true] at h) | skip) | ((conv => whnf) <;> (first | exact True.intro | apply br_rec | apply And.intro | apply EntP.k0 | apply EntP.k1 | apply EntP.k2 | apply EntP.k3 | apply EntP.k4 | apply EntP.k5 | apply EntP.k6 | apply DrawP.go | (apply AnyP.mk; kernel_rfl) | (refine AggP.go 2 rfl (by kernel_rfl) ?_) | (refine AggP.go 1 rfl (by kernel_rfl) ?_) | (refine AggP.go 3 rfl (by kernel_rfl) ?_) | (refine AggP.go 4 rfl (by kernel_rfl) ?_) | (refine AggP.go 5 rfl (by kernel_rfl) ?_) | (refine AggP.go 8 rfl (by kernel_rfl) ?_) | (refine AggP.go 11 rfl (by kernel_rfl) ?_) | apply CallP.own0 | apply CallP.own1 | apply CallP.own2 | apply CallP.own3 | apply CallP.nb | apply CutE.go0 | apply CutE.go7 | apply CutE.go6 | apply CutE.go5 | apply CutE.go4 | apply CutE.go3 | apply CutE.go2 | apply CutE.go1 | apply RoP.id | apply wrapS | (with_reducible exact lenNil) | apply Eq.refl)) | ((first | (with_reducible show rvEq _ _ _ _) | (with_reducible show svEq _ _ _ _) | (with_reducible show cellEq _ _ _ _) | (with_reducible show blkEq _ _ _)); conv => whnf))
  all_goals try simp only at *
  all_goals first
    | omega
    | (show (0 + l.length) * 8 ≤ _; omega)
    | trace_state
theorem getD_set (L : List Int) (i p : Nat) (x : Int) (hp : p < L.length) : (L.set i x).getD p 0 = if i = p then x else L.getD p 0 := by
  simp only [List.getD_eq_getElem?_getD, List.getElem?_set]
  by_cases h : i = p
  · subst h; simp [hp]
  · simp [h]
theorem slG_swap {l : List Int} {i j : Nat} {x y : Int} (hi : i < l.length) (hj : j < l.length) {i' t : Nat} (h' : i' < l.length) (ht : t < 1) :
    upd2 (upd2 (slG encI l) i 0 [.i x]) j 0 [.i y] i' t = slG encI ((l.set i x).set j y) i' t := by
  obtain rfl : t = 0 := by omega
  show _ = Cell.i (((l.set i x).set j y).getD i' 0)
  rw [getD_set _ _ _ _ (by simpa using h'), getD_set _ _ _ _ h']
  by_cases e : i' = j
  · subst e; simp [upd2]
  · by_cases e2 : i' = i
    · subst e2; simp [upd2, e, Ne.symm e]
    · simp [upd2, e, e2, Ne.symm e, Ne.symm e2, slG, encI]
/-- A row that is turned about as far as its place k. -/
structure RevI (l L : List Int) (k : Nat) : Prop where
  len : L.length = l.length
  le : 2 * k ≤ l.length
  at' : ∀ p, p < l.length → L.getD p 0 = if p < k ∨ l.length - k ≤ p then l.getD (l.length - 1 - p) 0 else l.getD p 0
theorem RevI.start (l : List Int) : RevI l l 0 := ⟨rfl, by omega, fun p hp => by rw [if_neg (by omega)]⟩
theorem RevI.go {l L : List Int} {k : Nat} (h : RevI l L k) (hk : k < l.length - 1 - k) : RevI l ((L.set k (L.getD (l.length - 1 - k) 0)).set (l.length - 1 - k) (L.getD k 0)) (k + 1) := by
  refine ⟨by simp [h.len], by omega, fun p hp => ?_⟩
  have h1 := h.at' (l.length - 1 - k) (by omega)
  have h2 := h.at' k (by omega)
  rw [if_neg (by omega)] at h1 h2
  rw [getD_set _ _ _ _ (by simp [h.len, hp]), getD_set _ _ _ _ (by rw [h.len]; exact hp), h1, h2]
  by_cases e1 : l.length - 1 - k = p
  · rw [if_pos e1, if_pos (by omega)]
    congr 1; omega
  · rw [if_neg e1]
    by_cases e2 : k = p
    · rw [if_pos e2, if_pos (by omega)]; rw [e2]
    · rw [if_neg e2, h.at' p hp]
      by_cases e3 : p < k ∨ l.length - k ≤ p
      · rw [if_pos e3, if_pos (by omega)]
      · rw [if_neg e3, if_neg (by omega)]
theorem RevI.done {l L : List Int} {k : Nat} (h : RevI l L k) (hk : ¬ ((k : Int) < (l.length : Int) - 1 - k)) : L = l.reverse := by
  refine List.ext_getElem (by rw [h.len, List.length_reverse]) fun p h1 h2 => ?_
  rw [List.getElem_reverse]
  have hp : p < l.length := by rw [← h.len]; exact h1
  have := h.at' p hp
  rw [List.getD_eq_getElem?_getD, List.getElem?_eq_getElem h1] at this
  have e : L[p] = if p < k ∨ l.length - k ≤ p then l.getD (l.length - 1 - p) 0 else l.getD p 0 := this
  rw [e]
  have e2 : l.getD (l.length - 1 - p) 0 = l[l.length - 1 - p] := by rw [List.getD_eq_getElem?_getD, List.getElem?_eq_getElem (by omega)]; rfl
  by_cases e3 : p < k ∨ l.length - k ≤ p
  · rw [if_pos e3, e2]
  · rw [if_neg e3, ← e2]
    congr 1
    have := h.le
    omega
def sRev : FSpec := lentSpec 1 (List Int) (fun _ => [.c (.osl 0)]) (fun l => [.slc 3 1 l.length (slG encI l)]) (fun l => l.length ≤ 1000) (fun _ => .tup []) fun l => [.slc 3 1 l.length (slG encI l.reverse)]
set_option maxHeartbeats 4000000 in
set_option maxRecDepth 100000 in
theorem rev_ok : Meets Try.prog 49 sRev := by
  refine meets_lent 1 (gok_nil _) rfl [] (fn := Try.f49) rfl rfl rfl (by decide) (fun _ => rfl) (fun _ => rfl) (by decide) fun l hl => ?_
  have hl : l.length ≤ 1000 := hl
  have hw1 : IntKind.i64.wrap ((l.length : Int) - 1) = (l.length : Int) - 1 := wrap_i64 (by omega)
  repeat' (first | (intro h; first | exact Bool.noConfusion h | (guard_hyp h : true = true; clear h) | (guard_hyp h : false = false; clear h) | (simp only [decide_eq_true_eq, decide_eq_false_iff_not, beq_iff_eq, beq_eq_false_iff_ne, bne_iff_ne, bne_eq_false_iff_eq, Bool.not_eq_true', Bool.not_eq_false', ne_eq, Classical.not_not, Bool.not_true, Bool.not_false, beqL_iff, beqL_ff, List.cons.injEq, and_true] at h) | skip) | ((conv => whnf) <;> (first | exact True.intro | apply br_rec | apply And.intro | apply EntP.k0 | apply EntP.k1 | apply EntP.k2 | apply EntP.k3 | apply EntP.k4 | apply EntP.k5 | apply EntP.k6 | apply DrawP.go | (apply AnyP.mk; kernel_rfl) | (refine AggP.go 2 rfl (by kernel_rfl) ?_) | (refine AggP.go 1 rfl (by kernel_rfl) ?_) | (refine AggP.go 3 rfl (by kernel_rfl) ?_) | (refine AggP.go 4 rfl (by kernel_rfl) ?_) | (refine AggP.go 5 rfl (by kernel_rfl) ?_) | (refine AggP.go 8 rfl (by kernel_rfl) ?_) | (refine AggP.go 11 rfl (by kernel_rfl) ?_) | apply CallP.own0 | apply CallP.own1 | apply CallP.own2 | apply CallP.own3 | apply CallP.nb | apply CutE.go0 | apply CutE.go7 | apply CutE.go6 | apply CutE.go5 | apply CutE.go4 | apply CutE.go3 | apply CutE.go2 | apply CutE.go1 | apply RoP.id | apply wrapS | (with_reducible exact lenNil) | apply Eq.refl)) | ((first | (with_reducible show rvEq _ _ _ _) | (with_reducible show svEq _ _ _ _) | (with_reducible show cellEq _ _ _ _) | (with_reducible show blkEq _ _ _)); conv => whnf))
  apply LoopP.up (G := Nat × List Int) (fun g => RevI l g.2 g.1) [0, 2, 3] (fun g => [(2, .i g.1), (3, .i ((l.length : Int) - 1 - g.1))]) (fun g => [(0, .slc 3 1 l.length (slG encI g.2))]) 1 (fun g => l.length - g.1)
  apply And.intro
  · refine CutE.at (0, l) ?_
    repeat' (first | (intro h; first | exact Bool.noConfusion h | (guard_hyp h : true = true; clear h) | (guard_hyp h : false = false; clear h) | (simp only [decide_eq_true_eq, decide_eq_false_iff_not, beq_iff_eq, beq_eq_false_iff_ne, bne_iff_ne, bne_eq_false_iff_eq, Bool.not_eq_true', Bool.not_eq_false', ne_eq, Classical.not_not, Bool.not_true, Bool.not_false, beqL_iff, beqL_ff, List.cons.injEq, and_true] at h) | skip) | ((conv => whnf) <;> (first | exact True.intro | apply br_rec | apply And.intro | apply EntP.k0 | apply EntP.k1 | apply EntP.k2 | apply EntP.k3 | apply EntP.k4 | apply EntP.k5 | apply EntP.k6 | apply DrawP.go | (apply AnyP.mk; kernel_rfl) | (refine AggP.go 2 rfl (by kernel_rfl) ?_) | (refine AggP.go 1 rfl (by kernel_rfl) ?_) | (refine AggP.go 3 rfl (by kernel_rfl) ?_) | (refine AggP.go 4 rfl (by kernel_rfl) ?_) | (refine AggP.go 5 rfl (by kernel_rfl) ?_) | (refine AggP.go 8 rfl (by kernel_rfl) ?_) | (refine AggP.go 11 rfl (by kernel_rfl) ?_) | apply CallP.own0 | apply CallP.own1 | apply CallP.own2 | apply CallP.own3 | apply CallP.nb | apply CutE.go0 | apply CutE.go7 | apply CutE.go6 | apply CutE.go5 | apply CutE.go4 | apply CutE.go3 | apply CutE.go2 | apply CutE.go1 | apply RoP.id | apply wrapS | (with_reducible exact lenNil) | apply Eq.refl)) | ((first | (with_reducible show rvEq _ _ _ _) | (with_reducible show svEq _ _ _ _) | (with_reducible show cellEq _ _ _ _) | (with_reducible show blkEq _ _ _)); conv => whnf))
    all_goals first
      | exact RevI.start l
      | (rw [hw1]; omega)
      | omega
      | trace_state
  rintro ⟨k, L⟩ hI
  have hI : RevI l L k := hI
  have hlen := hI.len
  have hle := hI.le
  have hw2 : IntKind.i64.wrap ((l.length : Int) - 1 - k - 1) = (l.length : Int) - 1 - (k + 1 : Nat) := by rw [wrap_i64 (by omega)]; omega
  have ht : (k : Int) < (l.length : Int) - 1 - k → ((l.length : Int) - 1 - k).toNat = l.length - 1 - k := fun h => by omega
  repeat' (first | (intro h; first | exact Bool.noConfusion h | (guard_hyp h : true = true; clear h) | (guard_hyp h : false = false; clear h) | (simp only [decide_eq_true_eq, decide_eq_false_iff_not, beq_iff_eq, beq_eq_false_iff_ne, bne_iff_ne, bne_eq_false_iff_eq, Bool.not_eq_true', Bool.not_eq_false', ne_eq, Classical.not_not, Bool.not_true, Bool.not_false, beqL_iff, beqL_ff, List.cons.injEq, and_true] at h) | skip) | ((conv => whnf) <;> (first | exact True.intro | apply br_rec | apply And.intro | refine CutE.at (A := Nat × List Int) (k + 1, (L.set k (L.getD (l.length - 1 - k) 0)).set (l.length - 1 - k) (L.getD k 0)) ?_ | apply EntP.k0 | apply EntP.k1 | apply EntP.k2 | apply EntP.k3 | apply EntP.k4 | apply EntP.k5 | apply EntP.k6 | apply DrawP.go | (apply AnyP.mk; kernel_rfl) | (refine AggP.go 2 rfl (by kernel_rfl) ?_) | (refine AggP.go 1 rfl (by kernel_rfl) ?_) | (refine AggP.go 3 rfl (by kernel_rfl) ?_) | (refine AggP.go 4 rfl (by kernel_rfl) ?_) | (refine AggP.go 5 rfl (by kernel_rfl) ?_) | (refine AggP.go 8 rfl (by kernel_rfl) ?_) | (refine AggP.go 11 rfl (by kernel_rfl) ?_) | apply CallP.own0 | apply CallP.own1 | apply CallP.own2 | apply CallP.own3 | apply CallP.nb | apply CutE.go0 | apply CutE.go7 | apply CutE.go6 | apply CutE.go5 | apply CutE.go4 | apply CutE.go3 | apply CutE.go2 | apply CutE.go1 | apply RoP.id | apply wrapS | (with_reducible exact lenNil) | apply Eq.refl)) | ((first | (with_reducible show rvEq _ _ _ _) | (with_reducible show svEq _ _ _ _) | (with_reducible show cellEq _ _ _ _) | (with_reducible show blkEq _ _ _)); conv => whnf))
  all_goals try simp only [Int.toNat_natCast] at *
  all_goals first
    | omega
    | exact hw2.symm
    | (rw [hI.done (by assumption)]; done)
    | exact hI.go (by omega)
    | (show l.length - (k + 1) < l.length - k; omega)
    | (rw [ht (by assumption)]; exact (slG_swap (by omega) (by omega) (by omega) (by assumption)).symm)
    | trace_state
end Go.Eng
