/- Picks. -/
import Derived.Test.YtmjogckeaaaicaaWkB
set_option linter.unusedVariables false
set_option linter.unusedSimpArgs false
namespace Go.Eng
open Go Go.Proofs

abbrev insS (l : List Int) : Cell := slC 1 encI l
def cntF (ws : List Nat) : Nat → Bool := fun i => fGt (ws.getD i default) 0
theorem firstG_ask {ask : Nat → Bool} {l : List Nat} : ∀ {i : Nat}, 0 ≤ firstG ask l i → ask (firstG ask l i).toNat = true
  | 0, h => absurd h (by show ¬ (0 : Int) ≤ -1; omega)
  | i + 1, h => by
    unfold firstG at h ⊢
    split at h
    · rename_i q
      rw [if_pos q]
      show ask i = true
      exact q.1
    · rename_i q
      rw [if_neg q]
      exact firstG_ask h
theorem firstG_some {ask : Nat → Bool} {l : List Nat} : ∀ {i j : Nat}, j < i → ask j = true → 0 ≤ firstG ask l i
  | 0, j, h, _ => absurd h (Nat.not_lt_zero _)
  | i + 1, j, h, hj => by
    unfold firstG
    split
    · omega
    · rename_i q
      by_cases e : j < i
      · exact firstG_some e hj
      · have e : j = i := by omega
        subst e
        by_cases e : firstG ask l j < 0
        · exact absurd ⟨hj, .inl e⟩ q
        · omega
def someF (ws : List Nat) : Bool := (List.range ws.length).any (cntF ws)
abbrev SomeF (ws : List Nat) : Prop := someF ws = true
theorem someF_iff {ws : List Nat} : SomeF ws ↔ ∃ i, i < ws.length ∧ cntF ws i = true := by
  show (List.range ws.length).any (cntF ws) = true ↔ _
  rw [List.any_eq_true]
  constructor
  · rintro ⟨i, hi, e⟩; exact ⟨i, List.mem_range.1 hi, e⟩
  · rintro ⟨i, hi, e⟩; exact ⟨i, List.mem_range.2 hi, e⟩
theorem first_some {ws l : List Nat} (hl : l.length = ws.length) (h : SomeF ws) : 0 ≤ firstF (cntF ws) l ∧ firstF (cntF ws) l < ws.length ∧ cntF ws (firstF (cntF ws) l).toNat = true := by
  obtain ⟨i, hi, e⟩ := someF_iff.1 h
  have h1 : 0 ≤ firstF (cntF ws) l := firstG_some (by omega) e
  have h2 := (firstG_in (cntF ws) l l.length).2
  have h2 : firstF (cntF ws) l < l.length := h2
  exact ⟨h1, by omega, firstG_ask h1⟩
theorem first_none {ws l : List Nat} (hl : l.length = ws.length) (h : ¬ SomeF ws) : firstF (cntF ws) l < 0 := by
  by_cases e : 0 ≤ firstF (cntF ws) l
  · have h2 : firstF (cntF ws) l < l.length := (firstG_in (cntF ws) l l.length).2
    exact absurd (someF_iff.2 ⟨(firstF (cntF ws) l).toNat, by omega, firstG_ask e⟩) h
  · omega
theorem cnt_pos {w : Nat} (hw : w < 2 ^ 64) (h : fGt w 0 = true) : 0 < w ∧ w ≤ 9218868437227405312 := by
  rw [fGt_is, decide_eq_true_eq] at h
  obtain ⟨h1, _, h3⟩ := h
  have hw : w < 18446744073709551616 := hw
  have e0 : skey 0 = 0 := by decide
  rw [e0] at h3
  unfold skey fRung fNeg at h3
  unfold fNan fRung at h1
  have h1 := of_decide_eq_false h1
  by_cases e : w < 9223372036854775808
  · rw [show w / 9223372036854775808 = 0 by omega] at h3
    have h3 : (0 : Int) < ((w % 9223372036854775808 : Nat) : Int) := h3
    omega
  · rw [show w / 9223372036854775808 = 1 by omega] at h3
    have h3 : (0 : Int) < -((w % 9223372036854775808 : Nat) : Int) := h3
    omega
def passS (ws pass : List Nat) : List Nat := pass.set (firstF (cntF ws) pass).toNat (fAdd (pass.getD (firstF (cntF ws) pass).toNat default) (fDiv 4607182418800017408 (ws.getD (firstF (cntF ws) pass).toNat default)))
def pkG (ws : List Nat) : Nat → List Int × List Nat
  | 0 => ([], List.replicate ws.length 0)
  | t + 1 => ((pkG ws t).1 ++ [firstF (cntF ws) (pkG ws t).2], passS ws (pkG ws t).2)
structure PkI (ws : List Nat) (t : Nat) (s : List Int × List Nat) : Prop where
  len : s.1.length = t
  pl : s.2.length = ws.length
  le : ∀ i, s.2.getD i default ≤ 9218868437227405312
theorem getD_setN {l : List Nat} {n m x : Nat} : (l.set n x).getD m default = if n = m ∧ m < l.length then x else l.getD m default := by
  rw [List.getD_eq_getElem?_getD, List.getElem?_set, List.getD_eq_getElem?_getD]
  by_cases e : n = m
  · subst e
    rw [if_pos rfl]
    by_cases h : n < l.length
    · rw [if_pos h, if_pos ⟨rfl, h⟩]; rfl
    · rw [if_neg h, if_neg (fun q => h q.2), List.getElem?_eq_none (by omega)]
  · rw [if_neg e, if_neg (fun q => e q.1)]
theorem step_ok {ws pass : List Nat} (hw : OkF ws) (hl : pass.length = ws.length) (hp : ∀ i, pass.getD i default ≤ 9218868437227405312) (h : SomeF ws) :
    fDivOk 4607182418800017408 (ws.getD (firstF (cntF ws) pass).toNat default) = true ∧ fDiv 4607182418800017408 (ws.getD (firstF (cntF ws) pass).toNat default) ≤ 9218868437227405312 ∧
    fAddOk (pass.getD (firstF (cntF ws) pass).toNat default) (fDiv 4607182418800017408 (ws.getD (firstF (cntF ws) pass).toNat default)) = true ∧
    pass.getD (firstF (cntF ws) pass).toNat default ≤ fAdd (pass.getD (firstF (cntF ws) pass).toNat default) (fDiv 4607182418800017408 (ws.getD (firstF (cntF ws) pass).toNat default)) ∧
    fAdd (pass.getD (firstF (cntF ws) pass).toNat default) (fDiv 4607182418800017408 (ws.getD (firstF (cntF ws) pass).toNat default)) ≤ 9218868437227405312 := by
  obtain ⟨h1, h2, h3⟩ := first_some hl h
  obtain ⟨h4, h5⟩ := cnt_pos (hw.at' _ (by omega)) h3
  obtain ⟨h6, h7⟩ := fDiv_is h4 h5
  obtain ⟨h8, h9, h10⟩ := fAdd_is (hp (firstF (cntF ws) pass).toNat) h7
  exact ⟨h6, h7, h8, h9, h10⟩
theorem pkI {ws : List Nat} (hw : OkF ws) (h : SomeF ws) : ∀ t, PkI ws t (pkG ws t)
  | 0 => ⟨rfl, List.length_replicate, fun i => by
      show (List.replicate ws.length 0).getD i default ≤ _
      rw [List.getD_eq_getElem?_getD, List.getElem?_replicate]
      split
      · show 0 ≤ _; omega
      · show 0 ≤ _; omega⟩
  | t + 1 => by
    have h0 := pkI hw h t
    obtain ⟨_, _, _, _, h5⟩ := step_ok hw h0.pl h0.le h
    refine ⟨?_, ?_, fun i => ?_⟩
    · show ((pkG ws t).1 ++ [_]).length = _; rw [List.length_append, h0.len]; rfl
    · show (List.set _ _ _).length = _; rw [List.length_set]; exact h0.pl
    · show (List.set _ _ _).getD i default ≤ _
      rw [getD_setN]
      split
      · exact h5
      · exact h0.le i
theorem pk_len (ws : List Nat) : ∀ t, (pkG ws t).1.length = t ∧ (pkG ws t).2.length = ws.length
  | 0 => ⟨rfl, List.length_replicate⟩
  | t + 1 => by
    have h0 := pk_len ws t
    refine ⟨?_, ?_⟩
    · show ((pkG ws t).1 ++ [_]).length = _; rw [List.length_append, h0.1]; rfl
    · show (List.set _ _ _).length = _; rw [List.length_set]; exact h0.2
theorem getD_rep (n i : Nat) : (List.replicate n 0).getD i default = 0 := by
  rw [List.getD_eq_getElem?_getD, List.getElem?_replicate]
  split <;> rfl
theorem okF_le {l : List Nat} (h : ∀ i, l.getD i default ≤ 9218868437227405312) : OkF l := ⟨fun i _ => by have := h i; show _ < 18446744073709551616; omega⟩
def picksF (ws : List Nat) (n : Int) : List Int × Int :=
  if 8 < ws.length ∨ n < 0 ∨ 1000 < n then ([], 2) else if 0 < n ∧ ¬ SomeF ws then ([], 8) else ((pkG ws n.toNat).1, 0)
theorem picksF_2 {ws : List Nat} {n : Int} (h : 8 < ws.length ∨ n < 0 ∨ 1000 < n) : picksF ws n = ([], 2) := by unfold picksF; rw [if_pos h]
theorem picksF_8 {ws : List Nat} {n : Int} (h : ¬ (8 < ws.length ∨ n < 0 ∨ 1000 < n)) (h2 : 0 < n ∧ ¬ SomeF ws) : picksF ws n = ([], 8) := by unfold picksF; rw [if_neg h, if_pos h2]
theorem picksF_0 {ws : List Nat} {n : Int} (h : ¬ (8 < ws.length ∨ n < 0 ∨ 1000 < n)) (h2 : ¬ (0 < n ∧ ¬ SomeF ws)) : picksF ws n = ((pkG ws n.toNat).1, 0) := by unfold picksF; rw [if_neg h, if_neg h2]
def sPicks : FSpec := spec (List Nat × Int) (fun (ws, n) => [.c (flsS ws), .i n]) (fun (ws, _) => OkF ws ∧ ws.length ≤ 1000) fun (ws, n) => .tup [.c (insS (picksF ws n).1), .c (.i (picksF ws n).2)]
theorem slG_repF {n i t : Nat} {x : Nat} (hi : i < n) (ht : t < 1) : slG encF (List.replicate n x) i t = [Cell.f x].getD t Cell.any := by
  obtain rfl : t = 0 := by omega
  simp [slG, encF, List.getD_eq_getElem?_getD, List.getElem?_replicate, hi]
theorem slG_snocG {α : Type} [Inhabited α] {enc : α → List Cell} {l : List α} {x : α} {q i t : Nat} {cs : List Cell} (hq : cs.length = q) (hi : i < (l ++ [x]).length) (ht : t < q) (hc : cs = enc x) : slG enc (l ++ [x]) i t = catG l.length (slG enc l) (litG q cs) i t := by
  subst hc hq
  exact (slG_snoc rfl rfl i (by simpa using hi) t ht).symm
theorem slG_snocN {α : Type} [Inhabited α] {enc : α → List Cell} {l : List α} {x : α} {n q i t : Nat} {cs : List Cell} (hn : n = l.length) (hq : cs.length = q) (hi : i < n + 1) (ht : t < q) (hc : cs = enc x) : slG enc (l ++ [x]) i t = catG n (slG enc l) (litG q cs) i t := by
  subst hn
  exact slG_snocG hq (by rw [List.length_append]; exact hi) ht hc
set_option maxHeartbeats 8000000 in
set_option maxRecDepth 100000 in
theorem picks_ok : Meets Try.prog 12 sPicks := by
  refine meets_plain Wk3_ok rfl [] (fn := Try.f12) rfl rfl rfl (by decide) fun ⟨ws, n⟩ hh => ?_
  have hok : OkF ws := hh.1
  have hlen : ws.length ≤ 1000 := hh.2
  clear hh
  show bodyK Try.prog _ _ _ _ sPicks (ws, n)
  by_cases h1 : 8 < ws.length ∨ n < 0 ∨ 1000 < n
  · have e1 : sPicks.res (ws, n) = .tup [.c (insS []), .c (.i 2)] := by show RV.tup _ = _; rw [picksF_2 h1]
    unfold bodyK
    rw [e1]
    clear e1
    repeat' (first | (intro h; first | exact Bool.noConfusion h | (guard_hyp h : true = true; clear h) | (guard_hyp h : false = false; clear h) | (simp only [decide_eq_true_eq, decide_eq_false_iff_not, beq_iff_eq, beq_eq_false_iff_ne, bne_iff_ne, bne_eq_false_iff_eq, Bool.not_eq_true', Bool.not_eq_false', ne_eq, Classical.not_not, Bool.not_true, Bool.not_false, beqL_iff, beqL_ff, List.cons.injEq, and_true] at h) | skip) | ((conv => whnf) <;> (first | exact True.intro | apply br_rec | apply And.intro | apply EntP.k0 | apply EntP.k1 | apply EntP.k2 | apply EntP.k3 | apply EntP.k4 | apply EntP.k5 | apply EntP.k6 | apply DrawP.go | (apply AnyP.mk; kernel_rfl) | (refine AggP.go 2 rfl (by kernel_rfl) ?_) | (refine AggP.go 1 rfl (by kernel_rfl) ?_) | (refine AggP.go 3 rfl (by kernel_rfl) ?_) | (refine AggP.go 4 rfl (by kernel_rfl) ?_) | (refine AggP.go 5 rfl (by kernel_rfl) ?_) | (refine AggP.go 8 rfl (by kernel_rfl) ?_) | (refine AggP.go 11 rfl (by kernel_rfl) ?_) | apply CallP.own0 | apply CallP.own1 | apply CallP.own2 | apply CallP.own3 | apply CallP.nb | apply CutE.go0 | apply CutE.go7 | apply CutE.go6 | apply CutE.go5 | apply CutE.go4 | apply CutE.go3 | apply CutE.go2 | apply CutE.go1 | apply RoP.id | apply wrapS | (with_reducible exact lenNil) | apply Eq.refl)) | ((first | (with_reducible show rvEq _ _ _ _) | (with_reducible show svEq _ _ _ _) | (with_reducible show cellEq _ _ _ _) | (with_reducible show blkEq _ _ _)); conv => whnf))
    all_goals first
      | rfl
      | (exfalso; omega)
      | trace_state
  by_cases h2 : 0 < n ∧ ¬ SomeF ws
  · have e1 : sPicks.res (ws, n) = .tup [.c (insS []), .c (.i 8)] := by show RV.tup _ = _; rw [picksF_8 h1 h2]
    unfold bodyK
    rw [e1]
    clear e1
    repeat' (first | (intro h; first | exact Bool.noConfusion h | (guard_hyp h : true = true; clear h) | (guard_hyp h : false = false; clear h) | (simp only [decide_eq_true_eq, decide_eq_false_iff_not, beq_iff_eq, beq_eq_false_iff_ne, bne_iff_ne, bne_eq_false_iff_eq, Bool.not_eq_true', Bool.not_eq_false', ne_eq, Classical.not_not, Bool.not_true, Bool.not_false, beqL_iff, beqL_ff, List.cons.injEq, and_true] at h) | skip) | ((conv => whnf) <;> (first | exact True.intro | apply br_rec | apply And.intro | apply EntP.k0 | apply EntP.k1 | apply EntP.k2 | apply EntP.k3 | apply EntP.k4 | apply EntP.k5 | apply EntP.k6 | apply DrawP.go | (apply AnyP.mk; kernel_rfl) | (refine AggP.go 2 rfl (by kernel_rfl) ?_) | (refine AggP.go 1 rfl (by kernel_rfl) ?_) | (refine AggP.go 3 rfl (by kernel_rfl) ?_) | (refine AggP.go 4 rfl (by kernel_rfl) ?_) | (refine AggP.go 5 rfl (by kernel_rfl) ?_) | (refine AggP.go 8 rfl (by kernel_rfl) ?_) | (refine AggP.go 11 rfl (by kernel_rfl) ?_) | apply CallP.own0 | apply CallP.own1 | apply CallP.own2 | apply CallP.own3 | apply CallP.nb | apply CutE.go0 | apply CutE.go7 | apply CutE.go6 | apply CutE.go5 | apply CutE.go4 | apply CutE.go3 | apply CutE.go2 | apply CutE.go1 | apply RoP.id | apply wrapS | (with_reducible exact lenNil) | apply Eq.refl)) | ((first | (with_reducible show rvEq _ _ _ _) | (with_reducible show svEq _ _ _ _) | (with_reducible show cellEq _ _ _ _) | (with_reducible show blkEq _ _ _)); conv => whnf))
    all_goals try first
      | rfl
      | omega
      | (exfalso; omega)
      | (show (8 : Int) * (ws.length : Int) ≤ _; omega)
    apply LoopP.up (G := Nat) (fun t => t = 0) [2, 6, 7, 8, 25, 26] (fun t => [(26, .i t)]) (fun _ => [(1, .slc 29 1 ws.length (slG encF (List.replicate ws.length 0)))]) 2 (fun t => 0)
    apply And.intro
    · refine CutE.at 0 ?_
      repeat' (first | (intro h; first | exact Bool.noConfusion h | (guard_hyp h : true = true; clear h) | (guard_hyp h : false = false; clear h) | (simp only [decide_eq_true_eq, decide_eq_false_iff_not, beq_iff_eq, beq_eq_false_iff_ne, bne_iff_ne, bne_eq_false_iff_eq, Bool.not_eq_true', Bool.not_eq_false', ne_eq, Classical.not_not, Bool.not_true, Bool.not_false, beqL_iff, beqL_ff, List.cons.injEq, and_true] at h) | skip) | ((conv => whnf) <;> (first | exact True.intro | apply br_rec | apply And.intro | apply EntP.k0 | apply EntP.k1 | apply EntP.k2 | apply EntP.k3 | apply EntP.k4 | apply EntP.k5 | apply EntP.k6 | apply DrawP.go | (apply AnyP.mk; kernel_rfl) | (refine AggP.go 2 rfl (by kernel_rfl) ?_) | (refine AggP.go 1 rfl (by kernel_rfl) ?_) | (refine AggP.go 3 rfl (by kernel_rfl) ?_) | (refine AggP.go 4 rfl (by kernel_rfl) ?_) | (refine AggP.go 5 rfl (by kernel_rfl) ?_) | (refine AggP.go 8 rfl (by kernel_rfl) ?_) | (refine AggP.go 11 rfl (by kernel_rfl) ?_) | apply CallP.own0 | apply CallP.own1 | apply CallP.own2 | apply CallP.own3 | apply CallP.nb | apply CutE.go0 | apply CutE.go7 | apply CutE.go6 | apply CutE.go5 | apply CutE.go4 | apply CutE.go3 | apply CutE.go2 | apply CutE.go1 | apply RoP.id | apply wrapS | (with_reducible exact lenNil) | apply Eq.refl)) | ((first | (with_reducible show rvEq _ _ _ _) | (with_reducible show svEq _ _ _ _) | (with_reducible show cellEq _ _ _ _) | (with_reducible show blkEq _ _ _)); conv => whnf))
      all_goals first
        | rfl
        | (rw [slG_repF (by assumption) (by assumption)]; done)
        | (show slG encF (List.replicate ws.length 0) _ _ = [Cell.f 0].getD _ Cell.any; exact slG_repF (by assumption) (by assumption))
        | trace_state
    intro t ht
    have ht : t = 0 := ht
    subst ht
    have hf := first_none (ws := ws) (l := List.replicate ws.length 0) List.length_replicate h2.2
    repeat' (first | (intro h; first | exact Bool.noConfusion h | (guard_hyp h : true = true; clear h) | (guard_hyp h : false = false; clear h) | (simp only [decide_eq_true_eq, decide_eq_false_iff_not, beq_iff_eq, beq_eq_false_iff_ne, bne_iff_ne, bne_eq_false_iff_eq, Bool.not_eq_true', Bool.not_eq_false', ne_eq, Classical.not_not, Bool.not_true, Bool.not_false, beqL_iff, beqL_ff, List.cons.injEq, and_true] at h) | skip) | ((conv => whnf) <;> (first | exact True.intro | apply br_rec | apply And.intro | apply CallP.inr | refine CutE.at (A := List Nat × List Nat) (List.replicate ws.length 0, ws) ?_ | apply EntP.k0 | apply EntP.k1 | apply EntP.k2 | apply EntP.k3 | apply EntP.k4 | apply EntP.k5 | apply EntP.k6 | apply DrawP.go | (apply AnyP.mk; kernel_rfl) | (refine AggP.go 2 rfl (by kernel_rfl) ?_) | (refine AggP.go 1 rfl (by kernel_rfl) ?_) | (refine AggP.go 3 rfl (by kernel_rfl) ?_) | (refine AggP.go 4 rfl (by kernel_rfl) ?_) | (refine AggP.go 5 rfl (by kernel_rfl) ?_) | (refine AggP.go 8 rfl (by kernel_rfl) ?_) | (refine AggP.go 11 rfl (by kernel_rfl) ?_) | apply CallP.own0 | apply CallP.own1 | apply CallP.own2 | apply CallP.own3 | apply CallP.nb | apply CutE.go0 | apply CutE.go7 | apply CutE.go6 | apply CutE.go5 | apply CutE.go4 | apply CutE.go3 | apply CutE.go2 | apply CutE.go1 | apply RoP.id | apply wrapS | (with_reducible exact lenNil) | apply Eq.refl)) | ((first | (with_reducible show rvEq _ _ _ _) | (with_reducible show svEq _ _ _ _) | (with_reducible show cellEq _ _ _ _) | (with_reducible show blkEq _ _ _)); conv => whnf))
    all_goals first
      | rfl
      | omega
      | (exact okF_le fun i => by rw [getD_rep]; omega)
      | (show (List.replicate ws.length 0).length ≤ 1000; rw [List.length_replicate]; omega)
      | (show (List.replicate ws.length 0).length = ws.length; exact List.length_replicate)
      | exact List.length_replicate.symm
      | (exfalso; have hf : firstF (fun i => fGt (ws.getD i default) 0) (List.replicate ws.length 0) < 0 := hf; omega)
      | trace_state
  · have e1 : sPicks.res (ws, n) = .tup [.c (insS (pkG ws n.toNat).1), .c (.i 0)] := by show RV.tup _ = _; rw [picksF_0 h1 h2]
    unfold bodyK
    rw [e1]
    clear e1
    repeat' (first | (intro h; first | exact Bool.noConfusion h | (guard_hyp h : true = true; clear h) | (guard_hyp h : false = false; clear h) | (simp only [decide_eq_true_eq, decide_eq_false_iff_not, beq_iff_eq, beq_eq_false_iff_ne, bne_iff_ne, bne_eq_false_iff_eq, Bool.not_eq_true', Bool.not_eq_false', ne_eq, Classical.not_not, Bool.not_true, Bool.not_false, beqL_iff, beqL_ff, List.cons.injEq, and_true] at h) | skip) | ((conv => whnf) <;> (first | exact True.intro | apply br_rec | apply And.intro | apply EntP.k0 | apply EntP.k1 | apply EntP.k2 | apply EntP.k3 | apply EntP.k4 | apply EntP.k5 | apply EntP.k6 | apply DrawP.go | (apply AnyP.mk; kernel_rfl) | (refine AggP.go 2 rfl (by kernel_rfl) ?_) | (refine AggP.go 1 rfl (by kernel_rfl) ?_) | (refine AggP.go 3 rfl (by kernel_rfl) ?_) | (refine AggP.go 4 rfl (by kernel_rfl) ?_) | (refine AggP.go 5 rfl (by kernel_rfl) ?_) | (refine AggP.go 8 rfl (by kernel_rfl) ?_) | (refine AggP.go 11 rfl (by kernel_rfl) ?_) | apply CallP.own0 | apply CallP.own1 | apply CallP.own2 | apply CallP.own3 | apply CallP.nb | apply CutE.go0 | apply CutE.go7 | apply CutE.go6 | apply CutE.go5 | apply CutE.go4 | apply CutE.go3 | apply CutE.go2 | apply CutE.go1 | apply RoP.id | apply wrapS | (with_reducible exact lenNil) | apply Eq.refl)) | ((first | (with_reducible show rvEq _ _ _ _) | (with_reducible show svEq _ _ _ _) | (with_reducible show cellEq _ _ _ _) | (with_reducible show blkEq _ _ _)); conv => whnf))
    all_goals try first
      | rfl
      | omega
      | (exfalso; omega)
    all_goals try (show (8 : Int) * (ws.length : Int) ≤ _; omega)
    apply LoopP.up (G := Nat) (fun t => t ≤ n.toNat) [2, 6, 7, 8, 25, 26] (fun t => [(8, .c (.osl 2)), (26, .i t)]) (fun t => [(1, .slc 29 1 ws.length (slG encF (pkG ws t).2)), (2, .slc 3 1 t (slG encI (pkG ws t).1))]) 3 (fun t => n.toNat - t)
    apply And.intro
    · refine CutE.at 0 ⟨EntP.at (n := 3) [⟨false, 8, 0, 3, 1⟩] [0, 1, 2] ?_, Nat.zero_le _⟩
      repeat' (first | (intro h; first | exact Bool.noConfusion h | (guard_hyp h : true = true; clear h) | (guard_hyp h : false = false; clear h) | (simp only [decide_eq_true_eq, decide_eq_false_iff_not, beq_iff_eq, beq_eq_false_iff_ne, bne_iff_ne, bne_eq_false_iff_eq, Bool.not_eq_true', Bool.not_eq_false', ne_eq, Classical.not_not, Bool.not_true, Bool.not_false, beqL_iff, beqL_ff, List.cons.injEq, and_true] at h) | skip) | ((conv => whnf) <;> (first | exact True.intro | apply br_rec | apply And.intro | apply EntP.k0 | apply EntP.k1 | apply EntP.k2 | apply EntP.k3 | apply EntP.k4 | apply EntP.k5 | apply EntP.k6 | apply DrawP.go | (apply AnyP.mk; kernel_rfl) | (refine AggP.go 2 rfl (by kernel_rfl) ?_) | (refine AggP.go 1 rfl (by kernel_rfl) ?_) | (refine AggP.go 3 rfl (by kernel_rfl) ?_) | (refine AggP.go 4 rfl (by kernel_rfl) ?_) | (refine AggP.go 5 rfl (by kernel_rfl) ?_) | (refine AggP.go 8 rfl (by kernel_rfl) ?_) | (refine AggP.go 11 rfl (by kernel_rfl) ?_) | apply CallP.own0 | apply CallP.own1 | apply CallP.own2 | apply CallP.own3 | apply CallP.nb | apply CutE.go0 | apply CutE.go7 | apply CutE.go6 | apply CutE.go5 | apply CutE.go4 | apply CutE.go3 | apply CutE.go2 | apply CutE.go1 | apply RoP.id | apply wrapS | (with_reducible exact lenNil) | apply Eq.refl)) | ((first | (with_reducible show rvEq _ _ _ _) | (with_reducible show svEq _ _ _ _) | (with_reducible show cellEq _ _ _ _) | (with_reducible show blkEq _ _ _)); conv => whnf))
      all_goals first
        | (rename_i i hi t; exact absurd hi (Nat.not_lt_zero _))
        | omega
        | rfl
        | (show slG encF (List.replicate ws.length 0) _ _ = [Cell.f 0].getD _ Cell.any; exact slG_repF (by assumption) (by assumption))
        | trace_state
    intro t ht
    have ht : t ≤ n.toNat := ht
    obtain ⟨l1, l2⟩ := pk_len ws t
    by_cases htn : (t : Int) < n
    · have hs : SomeF ws := by
        by_cases e : SomeF ws
        · exact e
        · exact absurd ⟨by omega, e⟩ h2
      have hI := pkI hok hs t
      obtain ⟨s1, s2, s3, s4, s5⟩ := step_ok hok hI.pl hI.le hs
      obtain ⟨f1, f2, f3⟩ := first_some hI.pl hs
      have f1 : 0 ≤ firstF (fun i => fGt (ws.getD i default) 0) (pkG ws t).2 := f1
      have f2 : firstF (fun i => fGt (ws.getD i default) 0) (pkG ws t).2 < ws.length := f2
      have hn1 : (pkG ws (t + 1)).1.length = t + 1 := (pk_len ws (t + 1)).1
      repeat' (first | (intro h; first | exact Bool.noConfusion h | (guard_hyp h : true = true; clear h) | (guard_hyp h : false = false; clear h) | (simp only [decide_eq_true_eq, decide_eq_false_iff_not, beq_iff_eq, beq_eq_false_iff_ne, bne_iff_ne, bne_eq_false_iff_eq, Bool.not_eq_true', Bool.not_eq_false', ne_eq, Classical.not_not, Bool.not_true, Bool.not_false, beqL_iff, beqL_ff, List.cons.injEq, and_true] at h) | skip) | ((conv => whnf) <;> (first | exact True.intro | apply br_rec | apply And.intro | apply CallP.inr | refine CutE.at (A := List Nat × List Nat) ((pkG ws t).2, ws) ?_ | refine CutE.at (A := Nat) (t + 1) ?_ | apply EntP.k0 | apply EntP.k1 | apply EntP.k2 | apply EntP.k3 | apply EntP.k4 | apply EntP.k5 | apply EntP.k6 | apply DrawP.go | (apply AnyP.mk; kernel_rfl) | (refine AggP.go 2 rfl (by kernel_rfl) ?_) | (refine AggP.go 1 rfl (by kernel_rfl) ?_) | (refine AggP.go 3 rfl (by kernel_rfl) ?_) | (refine AggP.go 4 rfl (by kernel_rfl) ?_) | (refine AggP.go 5 rfl (by kernel_rfl) ?_) | (refine AggP.go 8 rfl (by kernel_rfl) ?_) | (refine AggP.go 11 rfl (by kernel_rfl) ?_) | apply CallP.own0 | apply CallP.own1 | apply CallP.own2 | apply CallP.own3 | apply CallP.nb | apply CutE.go0 | apply CutE.go7 | apply CutE.go6 | apply CutE.go5 | apply CutE.go4 | apply CutE.go3 | apply CutE.go2 | apply CutE.go1 | apply RoP.id | apply wrapS | (with_reducible exact lenNil) | apply Eq.refl)) | ((first | (with_reducible show rvEq _ _ _ _) | (with_reducible show svEq _ _ _ _) | (with_reducible show cellEq _ _ _ _) | (with_reducible show blkEq _ _ _)); conv => whnf))
      all_goals first
        | omega
        | exact okF_le hI.le
        | (show (pkG ws t).2.length ≤ 1000; omega)
        | exact l2
        | exact l2.symm
        | exact s1
        | exact s3
        | (show (t + 1) * 8 ≤ _; omega)
        | (show n.toNat - (t + 1) < n.toNat - t; omega)
        | (show t + 1 ≤ n.toNat; omega)
        | (exfalso; omega)
        | exact slG_snocN l1.symm rfl (by assumption) (by assumption) rfl
        | exact (slG_set (enc := encF) (k := 1) (fun _ => rfl) (by omega) _ (by omega) _ (by assumption)).symm
        | trace_state
    · have e : n.toNat = t := by omega
      rw [e]
      repeat' (first | (intro h; first | exact Bool.noConfusion h | (guard_hyp h : true = true; clear h) | (guard_hyp h : false = false; clear h) | (simp only [decide_eq_true_eq, decide_eq_false_iff_not, beq_iff_eq, beq_eq_false_iff_ne, bne_iff_ne, bne_eq_false_iff_eq, Bool.not_eq_true', Bool.not_eq_false', ne_eq, Classical.not_not, Bool.not_true, Bool.not_false, beqL_iff, beqL_ff, List.cons.injEq, and_true] at h) | skip) | ((conv => whnf) <;> (first | exact True.intro | apply br_rec | apply And.intro | apply CallP.inr | refine CutE.at (A := List Nat × List Nat) ((pkG ws t).2, ws) ?_ | refine CutE.at (A := Nat) (t + 1) ?_ | apply EntP.k0 | apply EntP.k1 | apply EntP.k2 | apply EntP.k3 | apply EntP.k4 | apply EntP.k5 | apply EntP.k6 | apply DrawP.go | (apply AnyP.mk; kernel_rfl) | (refine AggP.go 2 rfl (by kernel_rfl) ?_) | (refine AggP.go 1 rfl (by kernel_rfl) ?_) | (refine AggP.go 3 rfl (by kernel_rfl) ?_) | (refine AggP.go 4 rfl (by kernel_rfl) ?_) | (refine AggP.go 5 rfl (by kernel_rfl) ?_) | (refine AggP.go 8 rfl (by kernel_rfl) ?_) | (refine AggP.go 11 rfl (by kernel_rfl) ?_) | apply CallP.own0 | apply CallP.own1 | apply CallP.own2 | apply CallP.own3 | apply CallP.nb | apply CutE.go0 | apply CutE.go7 | apply CutE.go6 | apply CutE.go5 | apply CutE.go4 | apply CutE.go3 | apply CutE.go2 | apply CutE.go1 | apply RoP.id | apply wrapS | (with_reducible exact lenNil) | apply Eq.refl)) | ((first | (with_reducible show rvEq _ _ _ _) | (with_reducible show svEq _ _ _ _) | (with_reducible show cellEq _ _ _ _) | (with_reducible show blkEq _ _ _)); conv => whnf))
      all_goals first
        | exact l1
        | rfl
        | (exfalso; omega)
        | trace_state
end Go.Eng
