/- The reference's likeness is the same. -/
import Derived.Test.YthhangpcedbhdaaHiI
set_option linter.unusedVariables false
set_option linter.unusedSimpArgs false
namespace Go.Eng
open Go Go.Proofs

theorem findG_in (s : Sp) : ∀ (r : List Sp) (i : Nat), findG s r i = -1 ∨ ((i : Int) ≤ findG s r i ∧ findG s r i < i + r.length)
  | [], i => .inl rfl
  | x :: r, i => by
    have := findG_in s r (i + 1)
    rw [findG, List.length_cons]
    split <;> omega
theorem findF_in (y : List Sp) (s : Sp) : findF y s = -1 ∨ (0 ≤ findF y s ∧ findF y s < y.length) := by
  have := findG_in s y 0
  unfold findF
  omega
def AlikeP (x y : List Sp) : Prop := x.length = y.length ∧ ∀ i, i < x.length → 0 ≤ findF y (x.getD i default) ∧ ∀ j, j < x.length → 0 ≤ findF y (x.getD j default) ∧
  befF (x.getD i default) (x.getD j default) = befF (y.getD (findF y (x.getD i default)).toNat default) (y.getD (findF y (x.getD j default)).toNat default)
instance (x y : List Sp) : Decidable (AlikeP x y) := by unfold AlikeP; infer_instance
def alikeR (x y : List Sp) : Bool := decide (AlikeP x y)
def sRAlike : FSpec := spec (List Ev × List Ev) (fun (a, b) => [.c (evsS a), .c (evsS b)]) (fun (a, b) => a.length ≤ 100 ∧ b.length ≤ 100) fun (a, b) => .b (alikeR (spG a a.length) (spG b b.length))
def H8 : List (Nat × FSpec) := [(50, sRSpans), (51, sFind), (52, sBef)]
theorem H8_ok : GOK Try.prog (tab H8) := gok_cons rspans_ok (gok_cons find_ok (gok_cons rbef_ok (gok_nil _)))
theorem spG_len (l : List Ev) : (spG l l.length).length ≤ l.length := outR_len l l.length
set_option maxHeartbeats 8000000 in
set_option maxRecDepth 100000 in
theorem ralike_ok : Meets Try.prog 38 sRAlike := by
  refine meets_plain H8_ok rfl [] (fn := Try.f38) rfl rfl rfl (by decide) fun ⟨a, b⟩ hh => ?_
  have ha : a.length ≤ 100 := hh.1
  have hb : b.length ≤ 100 := hh.2
  clear hh
  have hx := spG_len a
  have hy := spG_len b
  have ha2 : a.length ≤ 1000 := by omega
  have hb2 : b.length ≤ 1000 := by omega
  repeat' (first | (intro h; first | exact Bool.noConfusion h | (guard_hyp h : true = true; clear h) | (guard_hyp h : false = false; clear h) | (simp only [decide_eq_true_eq, decide_eq_false_iff_not, beq_iff_eq, beq_eq_false_iff_ne, bne_iff_ne, bne_eq_false_iff_eq, Bool.not_eq_true', Bool.not_eq_false', ne_eq, Classical.not_not, Bool.not_true, Bool.not_false, beqL_iff, beqL_ff, List.cons.injEq, and_true] at h) | skip) | ((conv => whnf) <;> (first | exact True.intro | apply br_rec | apply And.intro | apply EntP.k0 | apply EntP.k1 | apply EntP.k2 | apply EntP.k3 | apply EntP.k4 | apply EntP.k5 | apply EntP.k6 | apply DrawP.go | (apply AnyP.mk; kernel_rfl) | (refine AggP.go 2 rfl (by kernel_rfl) ?_) | (refine AggP.go 1 rfl (by kernel_rfl) ?_) | (refine AggP.go 3 rfl (by kernel_rfl) ?_) | (refine AggP.go 4 rfl (by kernel_rfl) ?_) | (refine AggP.go 5 rfl (by kernel_rfl) ?_) | (refine AggP.go 8 rfl (by kernel_rfl) ?_) | (refine AggP.go 11 rfl (by kernel_rfl) ?_) | (refine AggP.go 10 rfl (by kernel_rfl) ?_) | (refine PairP.go (by kernel_rfl) ?_) | apply CallP.own0 | apply CallP.own1 | apply CallP.own2 | apply CallP.own3 | apply CallP.nb | apply CutE.go0 | apply CutE.go7 | apply CutE.go6 | apply CutE.go5 | apply CutE.go4 | apply CutE.go3 | apply CutE.go2 | apply CutE.go1 | apply RoP.id | apply wrapS | (with_reducible exact lenNil) | apply Eq.refl)) | ((first | (with_reducible show rvEq _ _ _ _) | (with_reducible show svEq _ _ _ _) | (with_reducible show cellEq _ _ _ _) | (with_reducible show blkEq _ _ _)); conv => whnf))
  all_goals try first
    | exact ha2
    | exact hb2
    | (show alikeR _ _ = false; exact decide_eq_false (fun q => h (congrArg Int.ofNat q.1)))
  apply LoopP.up (G := Nat) (fun i => i ≤ (spG a a.length).length ∧ Up i fun i => 0 ≤ findF (spG b b.length) ((spG a a.length).getD i default) ∧ ∀ j, j < (spG a a.length).length → 0 ≤ findF (spG b b.length) ((spG a a.length).getD j default) ∧
    befF ((spG a a.length).getD i default) ((spG a a.length).getD j default) = befF ((spG b b.length).getD (findF (spG b b.length) ((spG a a.length).getD i default)).toNat default) ((spG b b.length).getD (findF (spG b b.length) ((spG a a.length).getD j default)).toNat default))
    [5, 6, 22, 23, 24] (fun i => [(24, .i i)]) (fun _ => []) 0 (fun i => (spG a a.length).length - i)
  apply And.intro
  · refine CutE.at 0 ?_
    repeat' (first | (intro h; first | exact Bool.noConfusion h | (guard_hyp h : true = true; clear h) | (guard_hyp h : false = false; clear h) | (simp only [decide_eq_true_eq, decide_eq_false_iff_not, beq_iff_eq, beq_eq_false_iff_ne, bne_iff_ne, bne_eq_false_iff_eq, Bool.not_eq_true', Bool.not_eq_false', ne_eq, Classical.not_not, Bool.not_true, Bool.not_false, beqL_iff, beqL_ff, List.cons.injEq, and_true] at h) | skip) | ((conv => whnf) <;> (first | exact True.intro | apply br_rec | apply And.intro | apply EntP.k0 | apply EntP.k1 | apply EntP.k2 | apply EntP.k3 | apply EntP.k4 | apply EntP.k5 | apply EntP.k6 | apply DrawP.go | (apply AnyP.mk; kernel_rfl) | (refine AggP.go 2 rfl (by kernel_rfl) ?_) | (refine AggP.go 1 rfl (by kernel_rfl) ?_) | (refine AggP.go 3 rfl (by kernel_rfl) ?_) | (refine AggP.go 4 rfl (by kernel_rfl) ?_) | (refine AggP.go 5 rfl (by kernel_rfl) ?_) | (refine AggP.go 8 rfl (by kernel_rfl) ?_) | (refine AggP.go 11 rfl (by kernel_rfl) ?_) | (refine AggP.go 10 rfl (by kernel_rfl) ?_) | (refine PairP.go (by kernel_rfl) ?_) | apply CallP.own0 | apply CallP.own1 | apply CallP.own2 | apply CallP.own3 | apply CallP.nb | apply CutE.go0 | apply CutE.go7 | apply CutE.go6 | apply CutE.go5 | apply CutE.go4 | apply CutE.go3 | apply CutE.go2 | apply CutE.go1 | apply RoP.id | apply wrapS | (with_reducible exact lenNil) | apply Eq.refl)) | ((first | (with_reducible show rvEq _ _ _ _) | (with_reducible show svEq _ _ _ _) | (with_reducible show cellEq _ _ _ _) | (with_reducible show blkEq _ _ _)); conv => whnf))
    all_goals first | exact Nat.zero_le _ | exact Up.zero _ | rfl | trace_state
  rintro i ⟨hi, hu⟩
  have hi : i ≤ (spG a a.length).length := hi
  generalize hX : spG a a.length = X at *
  generalize hY : spG b b.length = Y at *
  by_cases hiX : i < X.length
  · have hfi := findF_in Y (X.getD i default)
    repeat' (first | (intro h; first | exact Bool.noConfusion h | (guard_hyp h : true = true; clear h) | (guard_hyp h : false = false; clear h) | (simp only [decide_eq_true_eq, decide_eq_false_iff_not, beq_iff_eq, beq_eq_false_iff_ne, bne_iff_ne, bne_eq_false_iff_eq, Bool.not_eq_true', Bool.not_eq_false', ne_eq, Classical.not_not, Bool.not_true, Bool.not_false, beqL_iff, beqL_ff, List.cons.injEq, and_true] at h) | skip) | ((conv => whnf) <;> (first | exact True.intro | apply br_rec | apply And.intro | apply EntP.k0 | apply EntP.k1 | apply EntP.k2 | apply EntP.k3 | apply EntP.k4 | apply EntP.k5 | apply EntP.k6 | apply DrawP.go | (apply AnyP.mk; kernel_rfl) | (refine AggP.go 2 rfl (by kernel_rfl) ?_) | (refine AggP.go 1 rfl (by kernel_rfl) ?_) | (refine AggP.go 3 rfl (by kernel_rfl) ?_) | (refine AggP.go 4 rfl (by kernel_rfl) ?_) | (refine AggP.go 5 rfl (by kernel_rfl) ?_) | (refine AggP.go 8 rfl (by kernel_rfl) ?_) | (refine AggP.go 11 rfl (by kernel_rfl) ?_) | (refine AggP.go 10 rfl (by kernel_rfl) ?_) | (refine PairP.go (by kernel_rfl) ?_) | apply CallP.own0 | apply CallP.own1 | apply CallP.own2 | apply CallP.own3 | apply CallP.nb | apply CutE.go0 | apply CutE.go7 | apply CutE.go6 | apply CutE.go5 | apply CutE.go4 | apply CutE.go3 | apply CutE.go2 | apply CutE.go1 | apply RoP.id | apply wrapS | (with_reducible exact lenNil) | apply Eq.refl)) | ((first | (with_reducible show rvEq _ _ _ _) | (with_reducible show svEq _ _ _ _) | (with_reducible show cellEq _ _ _ _) | (with_reducible show blkEq _ _ _)); conv => whnf))
    all_goals try simp only [Int.toNat_natCast] at *
    all_goals try first
      | omega
      | (exfalso; omega)
      | (show Y.length ≤ 1000; omega)
      | (rw [hX, hY]; exact decide_eq_false (fun q => by have := (q.2 i hiX).1; omega))
    apply LoopP.up (G := Nat × Unit) (fun j => j.1 ≤ X.length ∧ Up j.1 fun j => 0 ≤ findF Y (X.getD j default) ∧ befF (X.getD i default) (X.getD j default) = befF (Y.getD (findF Y (X.getD i default)).toNat default) (Y.getD (findF Y (X.getD j default)).toNat default))
      [5, 6, 8, 9, 22, 23, 24, 33, 34, 35] (fun j => [(35, .i j.1)]) (fun _ => []) 1 (fun j => X.length - j.1)
    apply And.intro
    · refine CutE.at (0, ()) ?_
      repeat' (first | (intro h; first | exact Bool.noConfusion h | (guard_hyp h : true = true; clear h) | (guard_hyp h : false = false; clear h) | (simp only [decide_eq_true_eq, decide_eq_false_iff_not, beq_iff_eq, beq_eq_false_iff_ne, bne_iff_ne, bne_eq_false_iff_eq, Bool.not_eq_true', Bool.not_eq_false', ne_eq, Classical.not_not, Bool.not_true, Bool.not_false, beqL_iff, beqL_ff, List.cons.injEq, and_true] at h) | skip) | ((conv => whnf) <;> (first | exact True.intro | apply br_rec | apply And.intro | apply EntP.k0 | apply EntP.k1 | apply EntP.k2 | apply EntP.k3 | apply EntP.k4 | apply EntP.k5 | apply EntP.k6 | apply DrawP.go | (apply AnyP.mk; kernel_rfl) | (refine AggP.go 2 rfl (by kernel_rfl) ?_) | (refine AggP.go 1 rfl (by kernel_rfl) ?_) | (refine AggP.go 3 rfl (by kernel_rfl) ?_) | (refine AggP.go 4 rfl (by kernel_rfl) ?_) | (refine AggP.go 5 rfl (by kernel_rfl) ?_) | (refine AggP.go 8 rfl (by kernel_rfl) ?_) | (refine AggP.go 11 rfl (by kernel_rfl) ?_) | (refine AggP.go 10 rfl (by kernel_rfl) ?_) | (refine PairP.go (by kernel_rfl) ?_) | apply CallP.own0 | apply CallP.own1 | apply CallP.own2 | apply CallP.own3 | apply CallP.nb | apply CutE.go0 | apply CutE.go7 | apply CutE.go6 | apply CutE.go5 | apply CutE.go4 | apply CutE.go3 | apply CutE.go2 | apply CutE.go1 | apply RoP.id | apply wrapS | (with_reducible exact lenNil) | apply Eq.refl)) | ((first | (with_reducible show rvEq _ _ _ _) | (with_reducible show svEq _ _ _ _) | (with_reducible show cellEq _ _ _ _) | (with_reducible show blkEq _ _ _)); conv => whnf))
      all_goals first | exact Nat.zero_le _ | exact Up.zero _ | rfl | trace_state
    rintro ⟨j, _⟩ ⟨hj, hu2⟩
    have hj : j ≤ X.length := hj
    have hu2 : Up j fun j => 0 ≤ findF Y (X.getD j default) ∧ befF (X.getD i default) (X.getD j default) = befF (Y.getD (findF Y (X.getD i default)).toNat default) (Y.getD (findF Y (X.getD j default)).toNat default) := hu2
    have hfj := findF_in Y (X.getD j default)
    repeat' (first | (intro h; first | exact Bool.noConfusion h | (guard_hyp h : true = true; clear h) | (guard_hyp h : false = false; clear h) | (simp only [decide_eq_true_eq, decide_eq_false_iff_not, beq_iff_eq, beq_eq_false_iff_ne, bne_iff_ne, bne_eq_false_iff_eq, Bool.not_eq_true', Bool.not_eq_false', ne_eq, Classical.not_not, Bool.not_true, Bool.not_false, beqL_iff, beqL_ff, List.cons.injEq, and_true] at h) | skip) | ((conv => whnf) <;> (first | exact True.intro | apply br_rec | apply And.intro | refine CutE.at (A := Nat × Unit) (j + 1, ()) ?_ | refine CutE.at (A := Nat) (i + 1) ?_ | apply CutE.goSp2 | apply EntP.k0 | apply EntP.k1 | apply EntP.k2 | apply EntP.k3 | apply EntP.k4 | apply EntP.k5 | apply EntP.k6 | apply DrawP.go | (apply AnyP.mk; kernel_rfl) | (refine AggP.go 2 rfl (by kernel_rfl) ?_) | (refine AggP.go 1 rfl (by kernel_rfl) ?_) | (refine AggP.go 3 rfl (by kernel_rfl) ?_) | (refine AggP.go 4 rfl (by kernel_rfl) ?_) | (refine AggP.go 5 rfl (by kernel_rfl) ?_) | (refine AggP.go 8 rfl (by kernel_rfl) ?_) | (refine AggP.go 11 rfl (by kernel_rfl) ?_) | (refine AggP.go 10 rfl (by kernel_rfl) ?_) | (refine PairP.go (by kernel_rfl) ?_) | apply CallP.own0 | apply CallP.own1 | apply CallP.own2 | apply CallP.own3 | apply CallP.nb | apply CutE.go0 | apply CutE.go7 | apply CutE.go6 | apply CutE.go5 | apply CutE.go4 | apply CutE.go3 | apply CutE.go2 | apply CutE.go1 | apply RoP.id | apply wrapS | (with_reducible exact lenNil) | apply Eq.refl)) | ((first | (with_reducible show rvEq _ _ _ _) | (with_reducible show svEq _ _ _ _) | (with_reducible show cellEq _ _ _ _) | (with_reducible show blkEq _ _ _)); conv => whnf))
    all_goals try simp only [Int.toNat_natCast] at *
    all_goals first
      | omega
      | (show 0 ≤ (j : Int); omega)
      | (show (j : Int) < X.length; omega)
      | (show Y.length ≤ 1000; omega)
      | (rw [hX, hY]; exact decide_eq_false (fun q => by have := ((q.2 i hiX).2 j (by omega)).1; omega))
      | (rw [hX, hY]; exact decide_eq_false (fun q => h ((q.2 i hiX).2 j (by omega)).2))
      | exact hu2.succ ⟨by omega, h⟩
      | exact hu.succ ⟨by omega, fun q hq => hu2.get q (by omega)⟩
      | (show X.length - (j + 1) < X.length - j; omega)
      | (show j + 1 ≤ X.length; omega)
      | (show X.length - (i + 1) < X.length - i; omega)
      | (show i + 1 ≤ X.length; omega)
      | trace_state
  · repeat' (first | (intro h; first | exact Bool.noConfusion h | (guard_hyp h : true = true; clear h) | (guard_hyp h : false = false; clear h) | (simp only [decide_eq_true_eq, decide_eq_false_iff_not, beq_iff_eq, beq_eq_false_iff_ne, bne_iff_ne, bne_eq_false_iff_eq, Bool.not_eq_true', Bool.not_eq_false', ne_eq, Classical.not_not, Bool.not_true, Bool.not_false, beqL_iff, beqL_ff, List.cons.injEq, and_true] at h) | skip) | ((conv => whnf) <;> (first | exact True.intro | apply br_rec | apply And.intro | apply EntP.k0 | apply EntP.k1 | apply EntP.k2 | apply EntP.k3 | apply EntP.k4 | apply EntP.k5 | apply EntP.k6 | apply DrawP.go | (apply AnyP.mk; kernel_rfl) | (refine AggP.go 2 rfl (by kernel_rfl) ?_) | (refine AggP.go 1 rfl (by kernel_rfl) ?_) | (refine AggP.go 3 rfl (by kernel_rfl) ?_) | (refine AggP.go 4 rfl (by kernel_rfl) ?_) | (refine AggP.go 5 rfl (by kernel_rfl) ?_) | (refine AggP.go 8 rfl (by kernel_rfl) ?_) | (refine AggP.go 11 rfl (by kernel_rfl) ?_) | (refine AggP.go 10 rfl (by kernel_rfl) ?_) | (refine PairP.go (by kernel_rfl) ?_) | apply CallP.own0 | apply CallP.own1 | apply CallP.own2 | apply CallP.own3 | apply CallP.nb | apply CutE.go0 | apply CutE.go7 | apply CutE.go6 | apply CutE.go5 | apply CutE.go4 | apply CutE.go3 | apply CutE.go2 | apply CutE.go1 | apply RoP.id | apply wrapS | (with_reducible exact lenNil) | apply Eq.refl)) | ((first | (with_reducible show rvEq _ _ _ _) | (with_reducible show svEq _ _ _ _) | (with_reducible show cellEq _ _ _ _) | (with_reducible show blkEq _ _ _)); conv => whnf))
    all_goals first
      | (exfalso; omega)
      | (show Y.length ≤ 1000; omega)
      | (rw [hX, hY]; exact decide_eq_true ⟨by omega, fun q hq => hu.get q (by omega)⟩)
      | trace_state
/-- What makes names tell spans apart. -/
structure SpU (y : List Sp) : Prop where
  uniq : ∀ i j, i < y.length → j < y.length → (y.getD i default).th = (y.getD j default).th → (y.getD i default).n = (y.getD j default).n → i = j
  to : ∀ i, i < y.length → -1 ≤ (y.getD i default).to
theorem spU_of {l : List Ev} (h : hRight l = true) : SpU (spansF l) := by
  obtain ⟨op, mn, f, q⟩ := spans_q h
  refine ⟨fun i j hi hj h1 h2 => ?_, fun i hi => ?_⟩
  · rcases Nat.lt_trichotomy i j with e | e | e
    · have := (q.ord i j e hj h1).2.2; omega
    · exact e
    · have := (q.ord j i e hi h1.symm).2.2; omega
  · have := q.to i hi
    have := q.fr i hi
    omega
theorem atG_some {y : List Sp} : ∀ {k : Nat} {a b i : Int}, atG y k a b = some i → (y.getD i.toNat default).th = a ∧ (y.getD i.toNat default).n = b
  | 0, a, b, i, h => by cases h
  | k + 1, a, b, i, h => by
    unfold atG at h
    split at h
    · rename_i q
      cases h
      rw [Int.toNat_natCast]
      exact ⟨q.1.symm, q.2.symm⟩
    · exact atG_some h
theorem atG_none {y : List Sp} : ∀ {k : Nat} {a b : Int}, atG y k a b = none → ∀ j, j < k → ¬ ((y.getD j default).th = a ∧ (y.getD j default).n = b)
  | 0, a, b, h, j, hj => absurd hj (Nat.not_lt_zero _)
  | k + 1, a, b, h, j, hj => by
    unfold atG at h
    split at h
    · cases h
    · rename_i q
      by_cases e : j = k
      · subst e; exact fun z => q ⟨z.1.symm, z.2.symm⟩
      · exact atG_none h j (by omega)
theorem findG_some {s : Sp} {y : List Sp} : ∀ {k : Nat}, k ≤ y.length → 0 ≤ findG s (y.drop k) k → SameP (y.getD (findG s (y.drop k) k).toNat default) s := by
  intro k hk
  induction hn : y.length - k generalizing k with
  | zero =>
    intro h
    rw [List.drop_eq_nil_of_le (by omega)] at h
    exact absurd h (by show ¬ (0 : Int) ≤ -1; omega)
  | succ n ih =>
    intro h
    rw [findG_step (by omega)] at h ⊢
    split at h
    · rename_i q
      rw [if_pos q, Int.toNat_natCast]
      exact of_decide_eq_true q
    · rename_i q
      rw [if_neg q]
      exact ih (by omega) (by omega) h
theorem findG_no {s : Sp} {y : List Sp} : ∀ {k : Nat}, k ≤ y.length → findG s (y.drop k) k = -1 → ∀ j, k ≤ j → j < y.length → ¬ SameP (y.getD j default) s := by
  intro k hk
  induction hn : y.length - k generalizing k with
  | zero => intro h j h1 h2; omega
  | succ n ih =>
    intro h j h1 h2
    rw [findG_step (by omega)] at h
    split at h
    · omega
    · rename_i q
      by_cases e : j = k
      · subst e; exact fun z => q (decide_eq_true z)
      · exact ih (by omega) (by omega) h j (by omega) h2
theorem bare_same {u s : Sp} (h1 : -1 ≤ u.to) (h2 : -1 ≤ s.to) : bareF u = bareF s ↔ SameP u s := by
  unfold bareF SameP
  constructor
  · intro h
    have e := h
    simp only [Sp.mk.injEq] at e
    obtain ⟨e1, e2, e3, e4, e5, e6, e7, e8, _, e9⟩ := e
    refine ⟨e1, e2, e3, e4, e5, e6, e7, e8, ?_⟩
    split at e9 <;> split at e9 <;> omega
  · rintro ⟨e1, e2, e3, e4, e5, e6, e7, e8, e9⟩
    rw [e1, e2, e3, e4, e5, e6, e7, e8]
    congr 1
    split <;> split <;> omega
theorem oth_find {y : List Sp} (hy : SpU y) {s : Sp} (hs : -1 ≤ s.to) : ((othF y s).2 = true ↔ 0 ≤ findF y s) ∧ (0 ≤ findF y s → (othF y s).1 = y.getD (findF y s).toNat default) := by
  have hf := findF_in y s
  have key : 0 ≤ findF y s → othF y s = (y.getD (findF y s).toNat default, true) := by
    intro h
    have hp := findG_some (s := s) (y := y) (k := 0) (Nat.zero_le _) h
    have hp : SameP (y.getD (findF y s).toNat default) s := hp
    have hlt : (findF y s).toNat < y.length := by omega
    cases hat : atF y s.th s.n with
    | none => exact absurd ⟨hp.1, hp.2.1⟩ (atG_none hat _ hlt)
    | some i =>
      obtain ⟨a1, a2⟩ := atG_some hat
      have hi := atG_in y y.length _ _ _ hat
      have e : i.toNat = (findF y s).toNat := hy.uniq _ _ (by omega) hlt (by rw [a1, hp.1]) (by rw [a2, hp.2.1])
      rw [othF_some hat, e, decide_eq_true ((bare_same (hy.to _ hlt) hs).2 hp)]
  refine ⟨⟨fun h => ?_, fun h => by rw [key h]⟩, fun h => by rw [key h]⟩
  cases hat : atF y s.th s.n with
  | none => rw [othF_none hat] at h; exact Bool.noConfusion h
  | some i =>
    have hi := atG_in y y.length _ _ _ hat
    rw [othF_some hat] at h
    have h := of_decide_eq_true h
    have hp := (bare_same (hy.to i.toNat (by omega)) hs).1 h
    rcases hf with e | e
    · exact absurd hp (findG_no (s := s) (y := y) (k := 0) (Nat.zero_le _) e i.toNat (Nat.zero_le _) (by omega))
    · exact e.1
theorem alike_is {x y : List Sp} (hx : SpU x) (hy : SpU y) : alikeF x y = alikeR x y := by
  have hm : ∀ i, i < x.length → ((othF y (x.getD i default)).2 = true ↔ 0 ≤ findF y (x.getD i default)) ∧ (0 ≤ findF y (x.getD i default) → (othF y (x.getD i default)).1 = y.getD (findF y (x.getD i default)).toNat default) := fun i hi => oth_find hy (hx.to i hi)
  by_cases hP : AlikeP x y
  · rw [show alikeR x y = true from decide_eq_true hP]
    obtain ⟨h1, h2⟩ := hP
    refine alike_yes h1 (k := x.length) (Nat.le_refl _) ⟨fun i hi => ?_⟩
    refine ⟨(hm i hi).1.2 (h2 i hi).1, fun j hj => ?_⟩
    rw [(hm i hi).2 (h2 i hi).1, (hm j hj).2 ((h2 i hi).2 j hj).1]
    exact ((h2 i hi).2 j hj).2
  · rw [show alikeR x y = false from decide_eq_false hP]
    by_cases h1 : x.length = y.length
    · by_cases h2 : ∀ i, i < x.length → (othF y (x.getD i default)).2 = true
      · by_cases h3 : ∀ i j, i < x.length → j < x.length → befF (x.getD i default) (x.getD j default) = befF (othF y (x.getD i default)).1 (othF y (x.getD j default)).1
        · exfalso
          refine hP ⟨h1, fun i hi => ⟨(hm i hi).1.1 (h2 i hi), fun j hj => ⟨(hm j hj).1.1 (h2 j hj), ?_⟩⟩⟩
          have := h3 i j hi hj
          rw [(hm i hi).2 ((hm i hi).1.1 (h2 i hi)), (hm j hj).2 ((hm j hj).1.1 (h2 j hj))] at this
          exact this
        · simp only [Classical.not_forall] at h3
          obtain ⟨i, j, hi, hj, h3⟩ := h3
          exact alike_no2 hi hj h3
      · simp only [Classical.not_forall] at h2
        obtain ⟨i, hi, h2⟩ := h2
        exact alike_no hi (Bool.eq_false_iff.2 h2)
    · exact alike_len h1
end Go.Eng
