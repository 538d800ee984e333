/- WeighOrders, walked. -/
import Derived.Test.YtmjogckeaaaicaaWkC
set_option linter.unusedVariables false
set_option linter.unusedSimpArgs false
namespace Go.Eng
open Go Go.Proofs

/-- A float's rank: who is ahead has the lower one. -/
def rk (a : Nat) : Int := if fNan a = true then 100000000000000000000 else 2 * skey a + if fNeg a = true then 0 else 1
theorem skey_in (a : Nat) : -9223372036854775808 < skey a ∧ skey a < 9223372036854775808 := by
  have h : fRung a < 9223372036854775808 := Nat.mod_lt _ (by omega)
  unfold skey
  split <;> omega
theorem lessF_is (a b : Nat) : lessF a b = decide (rk a < rk b) := by
  have h1 := skey_in a
  have h2 := skey_in b
  unfold lessF rk
  generalize skey a = x at *
  generalize skey b = y at *
  cases fNan a <;> cases fNan b <;> simp
  · by_cases e : x = y
    · rw [if_pos e]
      subst e
      cases fNeg a <;> cases fNeg b <;> simp <;> omega
    · rw [if_neg e]
      congr 1
      apply propext
      cases fNeg a <;> cases fNeg b <;> simp <;> omega
  · cases fNeg a <;> simp <;> omega
  · cases fNeg b <;> simp <;> omega
theorem rk_pos {a : Nat} (h : a ≤ 9218868437227405312) : rk a = 2 * (a : Int) + 1 := by
  obtain ⟨h1, h2, h3, h4⟩ := pos_rung h
  unfold rk
  rw [h2, h3, h4]
  rfl
def sFew10 : FSpec := spec (List Nat) (fun l => [.c (flsS l)]) (fun _ => True) fun l => .c (flsS (l.take 12))
set_option maxHeartbeats 4000000 in
set_option maxRecDepth 100000 in
theorem few10_ok : Meets Try.prog 11 sFew10 := by
  refine meets_plain (gok_nil _) rfl [] (fn := Try.f11) rfl rfl rfl (by decide) fun l _ => ?_
  repeat' (first | (intro h; first | exact Bool.noConfusion h | (guard_hyp h : true = true; clear h) | (guard_hyp h : false = false; clear h) | (simp only [decide_eq_true_eq, decide_eq_false_iff_not, beq_iff_eq, beq_eq_false_iff_ne, bne_iff_ne, bne_eq_false_iff_eq, Bool.not_eq_true', Bool.not_eq_false', ne_eq, Classical.not_not, Bool.not_true, Bool.not_false, beqL_iff, beqL_ff, List.cons.injEq, and_true] at h) | skip) | ((conv => whnf) <;> (first | exact True.intro | apply br_rec | apply And.intro | apply EntP.k0 | apply EntP.k1 | apply EntP.k2 | apply EntP.k3 | apply EntP.k4 | apply EntP.k5 | apply EntP.k6 | apply DrawP.go | (apply AnyP.mk; kernel_rfl) | (refine AggP.go 2 rfl (by kernel_rfl) ?_) | (refine AggP.go 1 rfl (by kernel_rfl) ?_) | (refine AggP.go 3 rfl (by kernel_rfl) ?_) | (refine AggP.go 4 rfl (by kernel_rfl) ?_) | (refine AggP.go 5 rfl (by kernel_rfl) ?_) | (refine AggP.go 8 rfl (by kernel_rfl) ?_) | (refine AggP.go 11 rfl (by kernel_rfl) ?_) | apply CallP.own0 | apply CallP.own1 | apply CallP.own2 | apply CallP.own3 | apply CallP.nb | apply CutE.go0 | apply CutE.go7 | apply CutE.go6 | apply CutE.go5 | apply CutE.go4 | apply CutE.go3 | apply CutE.go2 | apply CutE.go1 | apply RoP.id | apply wrapS | (with_reducible exact lenNil) | apply Eq.refl)) | ((first | (with_reducible show rvEq _ _ _ _) | (with_reducible show svEq _ _ _ _) | (with_reducible show cellEq _ _ _ _) | (with_reducible show blkEq _ _ _)); conv => whnf))
  all_goals first
    | omega
    | exact take_lo (m := 12)
    | exact take_hi (m := 12)
    | exact take_len (m := 12)
    | (apply take_cell (m := 12); assumption)
    | trace_state
def Wk4 : List (Nat × FSpec) := (12, sPicks) :: (14, sLeast) :: (11, sFew10) :: Wk3
theorem Wk4_ok : GOK Try.prog (tab Wk4) := gok_cons picks_ok (gok_cons least_ok (gok_cons few10_ok Wk3_ok))
def sAlive10 : FSpec := spec Unit (fun _ => []) (fun _ => True) fun _ => .b true
def al2 : List Nat := [13830554455654793216, 4613937818241073152]
theorem al2_at {i t : Nat} (hi : i < 2) (ht : t < 1) : slG encF al2 i t = litG 1 [Cell.f 13830554455654793216, Cell.f 4613937818241073152] i t := by
  have h1 : i = 0 ∨ i = 1 := by omega
  have h2 : t = 0 := by omega
  subst h2
  rcases h1 with rfl | rfl <;> rfl
set_option maxRecDepth 100000 in
theorem al2_picks : picksF al2 2 = ([1, 1], 0) := by kernel_rfl
theorem al2_ok : OkF al2 := ⟨fun i hi => by
  have hi : i < 2 := hi
  have h1 : i = 0 ∨ i = 1 := by omega
  rcases h1 with rfl | rfl <;> decide⟩
set_option maxHeartbeats 4000000 in
set_option maxRecDepth 100000 in
theorem alive10_ok : Meets Try.prog 13 sAlive10 := by
  refine meets_plain Wk4_ok rfl [] (fn := Try.f13) rfl rfl rfl (by decide) fun _ _ => ?_
  obtain ⟨l, hl⟩ : ∃ l : List Nat, l = al2 := ⟨_, rfl⟩
  have e : picksF l 2 = ([1, 1], 0) := by rw [hl]; exact al2_picks
  have hok : OkF l := by rw [hl]; exact al2_ok
  have hle : l.length = 2 := by rw [hl]; rfl
  have hat : ∀ i t, i < 2 → t < 1 → slG encF l i t = litG 1 [Cell.f 13830554455654793216, Cell.f 4613937818241073152] i t := fun i t h1 h2 => by rw [hl]; exact al2_at h1 h2
  clear hl
  repeat' (first | (intro h; first | exact Bool.noConfusion h | (guard_hyp h : true = true; clear h) | (guard_hyp h : false = false; clear h) | (simp only [decide_eq_true_eq, decide_eq_false_iff_not, beq_iff_eq, beq_eq_false_iff_ne, bne_iff_ne, bne_eq_false_iff_eq, Bool.not_eq_true', Bool.not_eq_false', ne_eq, Classical.not_not, Bool.not_true, Bool.not_false, beqL_iff, beqL_ff, List.cons.injEq, and_true] at h) | skip) | ((conv => whnf) <;> (first | exact True.intro | apply br_rec | apply And.intro | refine CutE.at (A := List Nat × Int) (l, 2) ?_ | apply EntP.k0 | apply EntP.k1 | apply EntP.k2 | apply EntP.k3 | apply EntP.k4 | apply EntP.k5 | apply EntP.k6 | apply DrawP.go | (apply AnyP.mk; kernel_rfl) | (refine AggP.go 2 rfl (by kernel_rfl) ?_) | (refine AggP.go 1 rfl (by kernel_rfl) ?_) | (refine AggP.go 3 rfl (by kernel_rfl) ?_) | (refine AggP.go 4 rfl (by kernel_rfl) ?_) | (refine AggP.go 5 rfl (by kernel_rfl) ?_) | (refine AggP.go 8 rfl (by kernel_rfl) ?_) | (refine AggP.go 11 rfl (by kernel_rfl) ?_) | apply CallP.own0 | apply CallP.own1 | apply CallP.own2 | apply CallP.own3 | apply CallP.nb | apply CutE.go0 | apply CutE.go7 | apply CutE.go6 | apply CutE.go5 | apply CutE.go4 | apply CutE.go3 | apply CutE.go2 | apply CutE.go1 | apply RoP.id | apply wrapS | (with_reducible exact lenNil) | apply Eq.refl)) | ((first | (with_reducible show rvEq _ _ _ _) | (with_reducible show svEq _ _ _ _) | (with_reducible show cellEq _ _ _ _) | (with_reducible show blkEq _ _ _)); conv => whnf))
  all_goals try simp only [e] at *
  all_goals first
    | exact hok
    | exact hle
    | exact hat _ _ (by omega) (by assumption)
    | (show l.length ≤ 1000; omega)
    | rfl
    | omega
    | contradiction
    | decide
    | trace_state
def Wk5 : List (Nat × FSpec) := (13, sAlive10) :: Wk4
theorem Wk5_ok : GOK Try.prog (tab Wk5) := gok_cons alive10_ok Wk4_ok
def sWOrders : FSpec := spec (Nat × Nat × Nat) (fun (a, b, c) => [.c (Cell.f a), .c (Cell.f b), .c (Cell.f c)]) (fun (a, b, c) => a < 2 ^ 64 ∧ b < 2 ^ 64 ∧ c < 2 ^ 64) fun _ => .b true
theorem first3 (a b c : Nat) : firstF (fun _ => true) [a, b, c] = if lessF b a = true then (if lessF c b = true then 2 else 1) else (if lessF c a = true then 2 else 0) := by
  show firstG _ [a, b, c] 3 = _
  have e1 : firstG (fun _ => true) [a, b, c] 1 = 0 := firstG_yes rfl (.inl (by show (-1 : Int) < 0; omega))
  by_cases h : lessF b a = true
  · rw [if_pos h]
    have e2 : firstG (fun _ => true) [a, b, c] 2 = 1 := firstG_yes rfl (.inr (by rw [e1]; exact h))
    by_cases h2 : lessF c b = true
    · rw [if_pos h2]; exact firstG_yes rfl (.inr (by rw [e2]; exact h2))
    · rw [if_neg h2, ← e2]; exact firstG_no2 (by rw [e2]; decide) (by rw [e2]; exact Bool.eq_false_iff.2 h2)
  · rw [if_neg h]
    have e2 : firstG (fun _ => true) [a, b, c] 2 = 0 := by rw [← e1]; exact firstG_no2 (by rw [e1]; decide) (by rw [e1]; exact Bool.eq_false_iff.2 h)
    by_cases h2 : lessF c a = true
    · rw [if_pos h2]; exact firstG_yes rfl (.inr (by rw [e2]; exact h2))
    · rw [if_neg h2, ← e2]; exact firstG_no2 (by rw [e2]; decide) (by rw [e2]; exact Bool.eq_false_iff.2 h2)
theorem ok3 {a b c : Nat} (h : a < 2 ^ 64 ∧ b < 2 ^ 64 ∧ c < 2 ^ 64) : OkF [a, b, c] := ⟨fun i hi => by
  have hi : i < 3 := hi
  have h1 : i = 0 ∨ i = 1 ∨ i = 2 := by omega
  rcases h1 with rfl | rfl | rfl
  · exact h.1
  · exact h.2.1
  · exact h.2.2⟩
theorem at3 {a b c i t : Nat} (hi : i < 3) (ht : t < 1) : slG encF [a, b, c] i t = litG 1 [Cell.f a, Cell.f b, Cell.f c] i t := by
  have h1 : i = 0 ∨ i = 1 ∨ i = 2 := by omega
  have h2 : t = 0 := by omega
  subst h2
  rcases h1 with rfl | rfl | rfl <;> rfl
set_option maxHeartbeats 8000000 in
set_option maxRecDepth 100000 in
theorem worders_ok : Meets Try.prog 5 sWOrders := by
  refine meets_plain Wk5_ok rfl [2, 7] (fn := Try.f5) rfl rfl rfl (by decide) fun ⟨a, b, c⟩ hh => ?_
  have hh : a < 2 ^ 64 ∧ b < 2 ^ 64 ∧ c < 2 ^ 64 := hh
  have hok := ok3 hh
  obtain ⟨ha, hb, hc⟩ := hh
  apply CutP.up (G := Bool × Bool × Bool × Bool × Bool × Bool) (fun x => (x.1 = true ↔ rk a < rk b) ∧ (x.2.1 = true ↔ rk b < rk a) ∧ (x.2.2.1 = true ↔ rk b < rk c) ∧ (x.2.2.2.1 = true ↔ rk c < rk b) ∧ (x.2.2.2.2.1 = true ↔ rk a < rk c) ∧ (x.2.2.2.2.2 = true ↔ rk c < rk a)) [0, 1, 2, 7, 8, 9, 10, 11, 12] (fun x => [(7, .b x.1), (8, .b x.2.1), (9, .b x.2.2.1), (10, .b x.2.2.2.1), (11, .b x.2.2.2.2.1), (12, .b x.2.2.2.2.2)]) (fun _ => []) 0
  apply And.intro
  · repeat' (first | (intro h; first | exact Bool.noConfusion h | (guard_hyp h : true = true; clear h) | (guard_hyp h : false = false; clear h) | (simp only [decide_eq_true_eq, decide_eq_false_iff_not, beq_iff_eq, beq_eq_false_iff_ne, bne_iff_ne, bne_eq_false_iff_eq, Bool.not_eq_true', Bool.not_eq_false', ne_eq, Classical.not_not, Bool.not_true, Bool.not_false, beqL_iff, beqL_ff, List.cons.injEq, and_true] at h) | skip) | ((conv => whnf) <;> (first | exact True.intro | apply br_rec | apply And.intro | refine CutE.at (A := Bool × Bool × Bool × Bool × Bool × Bool) (lessF a b, lessF b a, lessF b c, lessF c b, lessF a c, lessF c a) ?_ | apply EntP.k0 | apply EntP.k1 | apply EntP.k2 | apply EntP.k3 | apply EntP.k4 | apply EntP.k5 | apply EntP.k6 | apply DrawP.go | (apply AnyP.mk; kernel_rfl) | (refine AggP.go 2 rfl (by kernel_rfl) ?_) | (refine AggP.go 1 rfl (by kernel_rfl) ?_) | (refine AggP.go 3 rfl (by kernel_rfl) ?_) | (refine AggP.go 4 rfl (by kernel_rfl) ?_) | (refine AggP.go 5 rfl (by kernel_rfl) ?_) | (refine AggP.go 8 rfl (by kernel_rfl) ?_) | (refine AggP.go 11 rfl (by kernel_rfl) ?_) | apply CallP.own0 | apply CallP.own1 | apply CallP.own2 | apply CallP.own3 | apply CallP.nb | apply CutE.go0 | apply CutE.go7 | apply CutE.go6 | apply CutE.go5 | apply CutE.go4 | apply CutE.go3 | apply CutE.go2 | apply CutE.go1 | apply RoP.id | apply wrapS | (with_reducible exact lenNil) | apply Eq.refl)) | ((first | (with_reducible show rvEq _ _ _ _) | (with_reducible show svEq _ _ _ _) | (with_reducible show cellEq _ _ _ _) | (with_reducible show blkEq _ _ _)); conv => whnf))
    all_goals first
      | exact ha
      | exact hb
      | exact hc
      | rfl
      | (show lessF _ _ = true ↔ _; rw [lessF_is, decide_eq_true_eq]; done)
      | trace_state
  rintro ⟨x1, x2, x3, x4, x5, x6⟩ ⟨h1, h2, h3, h4, h5, h6⟩
  have h1 : x1 = true ↔ rk a < rk b := h1
  have h2 : x2 = true ↔ rk b < rk a := h2
  have h3 : x3 = true ↔ rk b < rk c := h3
  have h4 : x4 = true ↔ rk c < rk b := h4
  have h5 : x5 = true ↔ rk a < rk c := h5
  have h6 : x6 = true ↔ rk c < rk a := h6
  have hk : firstF (fun _ => true) [a, b, c] = if x2 = true then (if x4 = true then 2 else 1) else if x6 = true then 2 else 0 := by
    have e2 : lessF b a = x2 := by rw [lessF_is]; cases x2 <;> simp only [Bool.false_eq_true, false_iff, true_iff] at h2 <;> simp [h2]
    have e4 : lessF c b = x4 := by rw [lessF_is]; cases x4 <;> simp only [Bool.false_eq_true, false_iff, true_iff] at h4 <;> simp [h4]
    have e6 : lessF c a = x6 := by rw [lessF_is]; cases x6 <;> simp only [Bool.false_eq_true, false_iff, true_iff] at h6 <;> simp [h6]
    rw [first3, e2, e4, e6]
  cases x1 <;> cases x2 <;> cases x3 <;> cases x4 <;> cases x5 <;> cases x6 <;> simp only [Bool.false_eq_true, false_iff, true_iff, if_true, if_false] at h1 h2 h3 h4 h5 h6 hk
  all_goals try (exfalso; omega)
  all_goals repeat' (first | (intro h; first | exact Bool.noConfusion h | (guard_hyp h : true = true; clear h) | (guard_hyp h : false = false; clear h) | (simp only [decide_eq_true_eq, decide_eq_false_iff_not, beq_iff_eq, beq_eq_false_iff_ne, bne_iff_ne, bne_eq_false_iff_eq, Bool.not_eq_true', Bool.not_eq_false', ne_eq, Classical.not_not, Bool.not_true, Bool.not_false, beqL_iff, beqL_ff, List.cons.injEq, and_true] at h) | skip) | ((conv => whnf) <;> (first | exact True.intro | apply br_rec | apply And.intro | apply EntP.k0 | apply EntP.k1 | apply EntP.k2 | apply EntP.k3 | apply EntP.k4 | apply EntP.k5 | apply EntP.k6 | apply DrawP.go | (apply AnyP.mk; kernel_rfl) | (refine AggP.go 2 rfl (by kernel_rfl) ?_) | (refine AggP.go 1 rfl (by kernel_rfl) ?_) | (refine AggP.go 3 rfl (by kernel_rfl) ?_) | (refine AggP.go 4 rfl (by kernel_rfl) ?_) | (refine AggP.go 5 rfl (by kernel_rfl) ?_) | (refine AggP.go 8 rfl (by kernel_rfl) ?_) | (refine AggP.go 11 rfl (by kernel_rfl) ?_) | apply CallP.own0 | apply CallP.own1 | apply CallP.own2 | apply CallP.own3 | apply CallP.nb | apply CutE.go0 | apply CutE.go7 | apply CutE.go6 | apply CutE.go5 | apply CutE.go4 | apply CutE.go3 | apply CutE.go2 | apply CutE.go1 | apply RoP.id | apply wrapS | (with_reducible exact lenNil) | apply Eq.refl)) | ((first | (with_reducible show rvEq _ _ _ _) | (with_reducible show svEq _ _ _ _) | (with_reducible show cellEq _ _ _ _) | (with_reducible show blkEq _ _ _)); conv => whnf))
  all_goals apply CutP.up (G := Int) (fun k => k = firstF (fun _ => true) [a, b, c]) [7, 8, 10, 12, 13, 14] (fun k => [(13, .i k), (14, .i 0)]) (fun _ => []) 0
  all_goals refine ⟨?_, fun k hk2 => ?_⟩
  all_goals first
    | (have hk2 : k = firstF (fun _ => true) [a, b, c] := hk2
       rw [hk] at hk2
       subst hk2)
    | skip
  all_goals repeat' (first | (intro h; first | exact Bool.noConfusion h | (guard_hyp h : true = true; clear h) | (guard_hyp h : false = false; clear h) | (simp only [decide_eq_true_eq, decide_eq_false_iff_not, beq_iff_eq, beq_eq_false_iff_ne, bne_iff_ne, bne_eq_false_iff_eq, Bool.not_eq_true', Bool.not_eq_false', ne_eq, Classical.not_not, Bool.not_true, Bool.not_false, beqL_iff, beqL_ff, List.cons.injEq, and_true] at h) | skip) | ((conv => whnf) <;> (first | exact True.intro | apply br_rec | apply And.intro | refine CutE.at (A := List Nat) [a, b, c] ?_ | refine CutE.at (A := Int) (firstF (fun _ => true) [a, b, c]) ?_ | apply EntP.k0 | apply EntP.k1 | apply EntP.k2 | apply EntP.k3 | apply EntP.k4 | apply EntP.k5 | apply EntP.k6 | apply DrawP.go | (apply AnyP.mk; kernel_rfl) | (refine AggP.go 2 rfl (by kernel_rfl) ?_) | (refine AggP.go 1 rfl (by kernel_rfl) ?_) | (refine AggP.go 3 rfl (by kernel_rfl) ?_) | (refine AggP.go 4 rfl (by kernel_rfl) ?_) | (refine AggP.go 5 rfl (by kernel_rfl) ?_) | (refine AggP.go 8 rfl (by kernel_rfl) ?_) | (refine AggP.go 11 rfl (by kernel_rfl) ?_) | apply CallP.own0 | apply CallP.own1 | apply CallP.own2 | apply CallP.own3 | apply CallP.nb | apply CutE.go0 | apply CutE.go7 | apply CutE.go6 | apply CutE.go5 | apply CutE.go4 | apply CutE.go3 | apply CutE.go2 | apply CutE.go1 | apply RoP.id | apply wrapS | (with_reducible exact lenNil) | apply Eq.refl)) | ((first | (with_reducible show rvEq _ _ _ _) | (with_reducible show svEq _ _ _ _) | (with_reducible show cellEq _ _ _ _) | (with_reducible show blkEq _ _ _)); conv => whnf))
  all_goals first
    | rfl
    | exact hok
    | exact at3 (by assumption) (by assumption)
    | (show [a, b, c].length ≤ 1000; show 3 ≤ 1000; omega)
    | exact ()
    | trace_state
end Go.Eng
