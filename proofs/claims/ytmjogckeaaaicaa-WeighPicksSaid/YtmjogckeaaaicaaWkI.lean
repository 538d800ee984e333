/- Shares and acts. -/
import Derived.Test.YtmjogckeaaaicaaWkH
set_option linter.unusedVariables false
set_option linter.unusedSimpArgs false
namespace Go.Eng
open Go Go.Proofs

def cnt1 : List Int → Int → Int
  | [], _ => 0
  | p :: r, i => (if p = i then 1 else 0) + cnt1 r i
theorem cnt1_snoc (l : List Int) (p i : Int) : cnt1 (l ++ [p]) i = cnt1 l i + if p = i then 1 else 0 := by
  induction l with
  | nil => simp [cnt1]
  | cons q l ih => rw [List.cons_append, cnt1, cnt1, ih]; omega
theorem cnt1_in (l : List Int) (i : Int) : 0 ≤ cnt1 l i ∧ cnt1 l i ≤ l.length := by
  induction l with
  | nil => exact ⟨Int.le_refl _, Int.le_refl _⟩
  | cons q l ih => rw [cnt1, List.length_cons]; split <;> omega
def cntL (m : Nat) (l : List Int) : List Int := (List.range m).map fun (i : Nat) => cnt1 l i
theorem cntL_len (m : Nat) (l : List Int) : (cntL m l).length = m := by unfold cntL; rw [List.length_map, List.length_range]
theorem cntL_at {m : Nat} {l : List Int} {i : Nat} (h : i < m) : (cntL m l).getD i default = cnt1 l i := by
  unfold cntL
  rw [List.getD_eq_getElem?_getD, List.getElem?_map, List.getElem?_range h]; rfl
theorem cntL_set {m : Nat} {l : List Int} {p : Int} (h0 : 0 ≤ p) (h1 : p < m) : (cntL m l).set p.toNat (cnt1 l p + 1) = cntL m (l ++ [p]) := by
  apply List.ext_getElem
  · rw [List.length_set, cntL_len, cntL_len]
  intro i h2 h3
  rw [cntL_len] at h3
  have e1 := cntL_at (m := m) (l := l ++ [p]) h3
  rw [List.getD_eq_getElem?_getD, List.getElem?_eq_getElem (by rw [cntL_len]; exact h3)] at e1
  have e1 : (cntL m (l ++ [p]))[i] = cnt1 (l ++ [p]) i := e1
  rw [e1, cnt1_snoc, List.getElem_set]
  by_cases e : p.toNat = i
  · rw [if_pos e, if_pos (by omega), show p = (i : Int) by omega]
  · rw [if_neg e, if_neg (by omega)]
    have e2 := cntL_at (m := m) (l := l) h3
    rw [List.getD_eq_getElem?_getD, List.getElem?_eq_getElem (by rw [cntL_len]; exact h3)] at e2
    have e2 : (cntL m l)[i]'(by rw [cntL_len]; exact h3) = cnt1 l i := e2
    rw [e2]; omega
theorem sh_step {l : List Int} {m : Int} {k : Nat} (hlen : l.length ≤ 1000) (hk : k < l.length) (h0 : 0 ≤ l.getD k default) (h1 : l.getD k default < m) {i t : Nat} (hi : i < m.toNat) (ht : t < 1) :
    slG encI (cntL m.toNat (l.take (k + 1))) i t = upd2 (slG encI (cntL m.toNat (l.take k))) (l.getD k default).toNat 0 (Sv.c (Cell.v (Value.int IntKind.i64 (IntKind.i64.wrap ((cntL m.toNat (l.take k)).getD (l.getD k default).toNat default + 1))))).cells i t := by
  have hc := cnt1_in (l.take k) (l.getD k default)
  have hl := List.length_take_le k l
  rw [take_getD (d := default) hk, ← cntL_set h0 (by omega), cntL_at (by omega), Int.toNat_of_nonneg h0, wrap_i64 (by omega)]
  exact slG_set1 (by rw [cntL_len]; omega) (by rw [List.length_set, cntL_len]; exact hi) ht
theorem slG_cnt0 {m i t : Nat} (hi : i < m) (ht : t < 1) : slG encI (cntL m []) i t = Cell.i 0 := by
  obtain rfl : t = 0 := by omega
  unfold slG
  rw [cntL_at hi]; rfl
theorem slG_cntz {m i t : Nat} (hi : i < m) (ht : t < 1) : slG encI (cntL m []) i t = [Cell.i 0].getD t Cell.any := by
  rw [slG_cnt0 hi ht]
  obtain rfl : t = 0 := by omega
  rfl
def badF (many : Int) (l : List Int) : Bool := l.any fun p => decide (p < 0 ∨ many ≤ p)
def sharesF (l : List Int) (many : Int) : List Int × Int := if many < 0 ∨ 8 < many then ([], 2) else if badF many l = true then ([], 3) else (cntL many.toNat l, 0)
theorem sharesF_2 {l : List Int} {many : Int} (h : many < 0 ∨ 8 < many) : sharesF l many = ([], 2) := by unfold sharesF; rw [if_pos h]
theorem sharesF_3 {l : List Int} {many : Int} (h : ¬ (many < 0 ∨ 8 < many)) (h2 : badF many l = true) : sharesF l many = ([], 3) := by unfold sharesF; rw [if_neg h, if_pos h2]
theorem sharesF_0 {l : List Int} {many : Int} (h : ¬ (many < 0 ∨ 8 < many)) (h2 : badF many l = false) : sharesF l many = (cntL many.toNat l, 0) := by unfold sharesF; rw [if_neg h, h2]; rfl
theorem bad_yes {l : List Int} {many : Int} {k : Nat} (hk : k < l.length) (h : l.getD k default < 0 ∨ many ≤ l.getD k default) : badF many l = true := by
  unfold badF
  rw [List.any_eq_true]
  refine ⟨l.getD k default, ?_, decide_eq_true h⟩
  rw [List.getD_eq_getElem?_getD, List.getElem?_eq_getElem hk]
  exact List.getElem_mem hk
theorem bad_no {l : List Int} {many : Int} {k : Nat} (hk : l.length ≤ k) (h : Up k fun j => 0 ≤ l.getD j default ∧ l.getD j default < many) : badF many l = false := by
  unfold badF
  rw [List.any_eq_false]
  intro x hx
  obtain ⟨j, hj, e⟩ := List.mem_iff_getElem.1 hx
  have := h.get j (by omega)
  rw [List.getD_eq_getElem?_getD, List.getElem?_eq_getElem hj] at this
  have e2 : l[j] = x := e
  simp only [Option.getD_some, e2] at this
  simp only [decide_eq_true_eq]
  omega
def sShares : FSpec := spec (List Int × Int) (fun (l, m) => [.c (insS l), .i m]) (fun (l, _) => l.length ≤ 1000) fun (l, m) => .tup [.c (insS (sharesF l m).1), .c (.i (sharesF l m).2)]
set_option maxHeartbeats 8000000 in
set_option maxRecDepth 100000 in
theorem shares_ok : Meets Try.prog 18 sShares := by
  refine meets_plain (gok_nil _) rfl [] (fn := Try.f18) rfl rfl rfl (by decide) fun ⟨l, m⟩ hlen => ?_
  have hlen : l.length ≤ 1000 := hlen
  show bodyK Try.prog _ _ _ _ sShares (l, m)
  by_cases h1 : m < 0 ∨ 8 < m
  · have e1 : sShares.res (l, m) = .tup [.c (insS []), .c (.i 2)] := by show RV.tup _ = _; rw [sharesF_2 h1]
    unfold bodyK
    rw [e1]
    clear e1
    repeat' (first | (intro h; first | exact Bool.noConfusion h | (guard_hyp h : true = true; clear h) | (guard_hyp h : false = false; clear h) | (simp only [decide_eq_true_eq, decide_eq_false_iff_not, beq_iff_eq, beq_eq_false_iff_ne, bne_iff_ne, bne_eq_false_iff_eq, Bool.not_eq_true', Bool.not_eq_false', ne_eq, Classical.not_not, Bool.not_true, Bool.not_false, beqL_iff, beqL_ff, List.cons.injEq, and_true] at h) | skip) | ((conv => whnf) <;> (first | exact True.intro | apply br_rec | apply And.intro | apply EntP.k0 | apply EntP.k1 | apply EntP.k2 | apply EntP.k3 | apply EntP.k4 | apply EntP.k5 | apply EntP.k6 | apply DrawP.go | (apply AnyP.mk; kernel_rfl) | (refine AggP.go 2 rfl (by kernel_rfl) ?_) | (refine AggP.go 1 rfl (by kernel_rfl) ?_) | (refine AggP.go 3 rfl (by kernel_rfl) ?_) | (refine AggP.go 4 rfl (by kernel_rfl) ?_) | (refine AggP.go 5 rfl (by kernel_rfl) ?_) | (refine AggP.go 8 rfl (by kernel_rfl) ?_) | (refine AggP.go 11 rfl (by kernel_rfl) ?_) | apply CallP.own0 | apply CallP.own1 | apply CallP.own2 | apply CallP.own3 | apply CallP.nb | apply CutE.go0 | apply CutE.go7 | apply CutE.go6 | apply CutE.go5 | apply CutE.go4 | apply CutE.go3 | apply CutE.go2 | apply CutE.go1 | apply RoP.id | apply wrapS | (with_reducible exact lenNil) | apply Eq.refl)) | ((first | (with_reducible show rvEq _ _ _ _) | (with_reducible show svEq _ _ _ _) | (with_reducible show cellEq _ _ _ _) | (with_reducible show blkEq _ _ _)); conv => whnf))
    all_goals first
      | rfl
      | (exfalso; omega)
      | trace_state
  cases h2 : badF m l with
  | true =>
    have e1 : sShares.res (l, m) = .tup [.c (insS []), .c (.i 3)] := by show RV.tup _ = _; rw [sharesF_3 h1 h2]
    unfold bodyK
    rw [e1]
    clear e1
    repeat' (first | (intro h; first | exact Bool.noConfusion h | (guard_hyp h : true = true; clear h) | (guard_hyp h : false = false; clear h) | (simp only [decide_eq_true_eq, decide_eq_false_iff_not, beq_iff_eq, beq_eq_false_iff_ne, bne_iff_ne, bne_eq_false_iff_eq, Bool.not_eq_true', Bool.not_eq_false', ne_eq, Classical.not_not, Bool.not_true, Bool.not_false, beqL_iff, beqL_ff, List.cons.injEq, and_true] at h) | skip) | ((conv => whnf) <;> (first | exact True.intro | apply br_rec | apply And.intro | apply EntP.k0 | apply EntP.k1 | apply EntP.k2 | apply EntP.k3 | apply EntP.k4 | apply EntP.k5 | apply EntP.k6 | apply DrawP.go | (apply AnyP.mk; kernel_rfl) | (refine AggP.go 2 rfl (by kernel_rfl) ?_) | (refine AggP.go 1 rfl (by kernel_rfl) ?_) | (refine AggP.go 3 rfl (by kernel_rfl) ?_) | (refine AggP.go 4 rfl (by kernel_rfl) ?_) | (refine AggP.go 5 rfl (by kernel_rfl) ?_) | (refine AggP.go 8 rfl (by kernel_rfl) ?_) | (refine AggP.go 11 rfl (by kernel_rfl) ?_) | apply CallP.own0 | apply CallP.own1 | apply CallP.own2 | apply CallP.own3 | apply CallP.nb | apply CutE.go0 | apply CutE.go7 | apply CutE.go6 | apply CutE.go5 | apply CutE.go4 | apply CutE.go3 | apply CutE.go2 | apply CutE.go1 | apply RoP.id | apply wrapS | (with_reducible exact lenNil) | apply Eq.refl)) | ((first | (with_reducible show rvEq _ _ _ _) | (with_reducible show svEq _ _ _ _) | (with_reducible show cellEq _ _ _ _) | (with_reducible show blkEq _ _ _)); conv => whnf))
    all_goals try first
      | rfl
      | omega
      | (exfalso; omega)
      | (show (8 : Int) * m ≤ _; omega)
    apply LoopP.up (G := Nat) (fun k => k ≤ l.length ∧ Up k fun j => 0 ≤ l.getD j default ∧ l.getD j default < m) [1, 6, 17, 18, 19] (fun k => [(19, .i k)]) (fun k => [(0, .slc 3 1 m.toNat (slG encI (cntL m.toNat (l.take k))))]) 1 (fun k => l.length - k)
    apply And.intro
    · refine CutE.at 0 ?_
      repeat' (first | (intro h; first | exact Bool.noConfusion h | (guard_hyp h : true = true; clear h) | (guard_hyp h : false = false; clear h) | (simp only [decide_eq_true_eq, decide_eq_false_iff_not, beq_iff_eq, beq_eq_false_iff_ne, bne_iff_ne, bne_eq_false_iff_eq, Bool.not_eq_true', Bool.not_eq_false', ne_eq, Classical.not_not, Bool.not_true, Bool.not_false, beqL_iff, beqL_ff, List.cons.injEq, and_true] at h) | skip) | ((conv => whnf) <;> (first | exact True.intro | apply br_rec | apply And.intro | apply EntP.k0 | apply EntP.k1 | apply EntP.k2 | apply EntP.k3 | apply EntP.k4 | apply EntP.k5 | apply EntP.k6 | apply DrawP.go | (apply AnyP.mk; kernel_rfl) | (refine AggP.go 2 rfl (by kernel_rfl) ?_) | (refine AggP.go 1 rfl (by kernel_rfl) ?_) | (refine AggP.go 3 rfl (by kernel_rfl) ?_) | (refine AggP.go 4 rfl (by kernel_rfl) ?_) | (refine AggP.go 5 rfl (by kernel_rfl) ?_) | (refine AggP.go 8 rfl (by kernel_rfl) ?_) | (refine AggP.go 11 rfl (by kernel_rfl) ?_) | apply CallP.own0 | apply CallP.own1 | apply CallP.own2 | apply CallP.own3 | apply CallP.nb | apply CutE.go0 | apply CutE.go7 | apply CutE.go6 | apply CutE.go5 | apply CutE.go4 | apply CutE.go3 | apply CutE.go2 | apply CutE.go1 | apply RoP.id | apply wrapS | (with_reducible exact lenNil) | apply Eq.refl)) | ((first | (with_reducible show rvEq _ _ _ _) | (with_reducible show svEq _ _ _ _) | (with_reducible show cellEq _ _ _ _) | (with_reducible show blkEq _ _ _)); conv => whnf))
      all_goals first
        | exact Nat.zero_le _
        | exact Up.zero _
        | rfl
        | (show slG encI (cntL m.toNat []) _ _ = [Cell.i 0].getD _ Cell.any; exact slG_cntz (by assumption) (by assumption))
        | trace_state
    rintro k ⟨hk, hu⟩
    have hk : k ≤ l.length := hk
    repeat' (first | (intro h; first | exact Bool.noConfusion h | (guard_hyp h : true = true; clear h) | (guard_hyp h : false = false; clear h) | (simp only [decide_eq_true_eq, decide_eq_false_iff_not, beq_iff_eq, beq_eq_false_iff_ne, bne_iff_ne, bne_eq_false_iff_eq, Bool.not_eq_true', Bool.not_eq_false', ne_eq, Classical.not_not, Bool.not_true, Bool.not_false, beqL_iff, beqL_ff, List.cons.injEq, and_true] at h) | skip) | ((conv => whnf) <;> (first | exact True.intro | apply br_rec | apply And.intro | refine CutE.at (A := Nat) (k + 1) ?_ | apply EntP.k0 | apply EntP.k1 | apply EntP.k2 | apply EntP.k3 | apply EntP.k4 | apply EntP.k5 | apply EntP.k6 | apply DrawP.go | (apply AnyP.mk; kernel_rfl) | (refine AggP.go 2 rfl (by kernel_rfl) ?_) | (refine AggP.go 1 rfl (by kernel_rfl) ?_) | (refine AggP.go 3 rfl (by kernel_rfl) ?_) | (refine AggP.go 4 rfl (by kernel_rfl) ?_) | (refine AggP.go 5 rfl (by kernel_rfl) ?_) | (refine AggP.go 8 rfl (by kernel_rfl) ?_) | (refine AggP.go 11 rfl (by kernel_rfl) ?_) | apply CallP.own0 | apply CallP.own1 | apply CallP.own2 | apply CallP.own3 | apply CallP.nb | apply CutE.go0 | apply CutE.go7 | apply CutE.go6 | apply CutE.go5 | apply CutE.go4 | apply CutE.go3 | apply CutE.go2 | apply CutE.go1 | apply RoP.id | apply wrapS | (with_reducible exact lenNil) | apply Eq.refl)) | ((first | (with_reducible show rvEq _ _ _ _) | (with_reducible show svEq _ _ _ _) | (with_reducible show cellEq _ _ _ _) | (with_reducible show blkEq _ _ _)); conv => whnf))
    all_goals try simp only [Int.toNat_natCast] at *
    all_goals first
      | omega
      | (show l.length - (k + 1) < l.length - k; omega)
      | (show k + 1 ≤ l.length; omega)
      | exact sh_step hlen (by omega) (by omega) (by omega) (by assumption) (by assumption)
      | exact hu.succ ⟨by omega, by omega⟩
      | (exfalso; exact Bool.noConfusion (h2.symm.trans (bad_no (k := k) (by omega) hu)))
      | (exfalso; exact Bool.noConfusion (h2.symm.trans (bad_yes (many := m) (k := k) (by omega) (by omega))))
      | exact (cntL_len _ _).symm
      | (show (cntL m.toNat l).length = m.toNat; exact cntL_len _ _)
      | (rw [show k = l.length by omega, List.take_length])
      | trace_state
  | false =>
    have e1 : sShares.res (l, m) = .tup [.c (insS (cntL m.toNat l)), .c (.i 0)] := by show RV.tup _ = _; rw [sharesF_0 h1 h2]
    unfold bodyK
    rw [e1]
    clear e1
    repeat' (first | (intro h; first | exact Bool.noConfusion h | (guard_hyp h : true = true; clear h) | (guard_hyp h : false = false; clear h) | (simp only [decide_eq_true_eq, decide_eq_false_iff_not, beq_iff_eq, beq_eq_false_iff_ne, bne_iff_ne, bne_eq_false_iff_eq, Bool.not_eq_true', Bool.not_eq_false', ne_eq, Classical.not_not, Bool.not_true, Bool.not_false, beqL_iff, beqL_ff, List.cons.injEq, and_true] at h) | skip) | ((conv => whnf) <;> (first | exact True.intro | apply br_rec | apply And.intro | apply EntP.k0 | apply EntP.k1 | apply EntP.k2 | apply EntP.k3 | apply EntP.k4 | apply EntP.k5 | apply EntP.k6 | apply DrawP.go | (apply AnyP.mk; kernel_rfl) | (refine AggP.go 2 rfl (by kernel_rfl) ?_) | (refine AggP.go 1 rfl (by kernel_rfl) ?_) | (refine AggP.go 3 rfl (by kernel_rfl) ?_) | (refine AggP.go 4 rfl (by kernel_rfl) ?_) | (refine AggP.go 5 rfl (by kernel_rfl) ?_) | (refine AggP.go 8 rfl (by kernel_rfl) ?_) | (refine AggP.go 11 rfl (by kernel_rfl) ?_) | apply CallP.own0 | apply CallP.own1 | apply CallP.own2 | apply CallP.own3 | apply CallP.nb | apply CutE.go0 | apply CutE.go7 | apply CutE.go6 | apply CutE.go5 | apply CutE.go4 | apply CutE.go3 | apply CutE.go2 | apply CutE.go1 | apply RoP.id | apply wrapS | (with_reducible exact lenNil) | apply Eq.refl)) | ((first | (with_reducible show rvEq _ _ _ _) | (with_reducible show svEq _ _ _ _) | (with_reducible show cellEq _ _ _ _) | (with_reducible show blkEq _ _ _)); conv => whnf))
    all_goals try first
      | rfl
      | omega
      | (exfalso; omega)
      | (show (8 : Int) * m ≤ _; omega)
    apply LoopP.up (G := Nat) (fun k => k ≤ l.length ∧ Up k fun j => 0 ≤ l.getD j default ∧ l.getD j default < m) [1, 6, 17, 18, 19] (fun k => [(19, .i k)]) (fun k => [(0, .slc 3 1 m.toNat (slG encI (cntL m.toNat (l.take k))))]) 1 (fun k => l.length - k)
    apply And.intro
    · refine CutE.at 0 ?_
      repeat' (first | (intro h; first | exact Bool.noConfusion h | (guard_hyp h : true = true; clear h) | (guard_hyp h : false = false; clear h) | (simp only [decide_eq_true_eq, decide_eq_false_iff_not, beq_iff_eq, beq_eq_false_iff_ne, bne_iff_ne, bne_eq_false_iff_eq, Bool.not_eq_true', Bool.not_eq_false', ne_eq, Classical.not_not, Bool.not_true, Bool.not_false, beqL_iff, beqL_ff, List.cons.injEq, and_true] at h) | skip) | ((conv => whnf) <;> (first | exact True.intro | apply br_rec | apply And.intro | apply EntP.k0 | apply EntP.k1 | apply EntP.k2 | apply EntP.k3 | apply EntP.k4 | apply EntP.k5 | apply EntP.k6 | apply DrawP.go | (apply AnyP.mk; kernel_rfl) | (refine AggP.go 2 rfl (by kernel_rfl) ?_) | (refine AggP.go 1 rfl (by kernel_rfl) ?_) | (refine AggP.go 3 rfl (by kernel_rfl) ?_) | (refine AggP.go 4 rfl (by kernel_rfl) ?_) | (refine AggP.go 5 rfl (by kernel_rfl) ?_) | (refine AggP.go 8 rfl (by kernel_rfl) ?_) | (refine AggP.go 11 rfl (by kernel_rfl) ?_) | apply CallP.own0 | apply CallP.own1 | apply CallP.own2 | apply CallP.own3 | apply CallP.nb | apply CutE.go0 | apply CutE.go7 | apply CutE.go6 | apply CutE.go5 | apply CutE.go4 | apply CutE.go3 | apply CutE.go2 | apply CutE.go1 | apply RoP.id | apply wrapS | (with_reducible exact lenNil) | apply Eq.refl)) | ((first | (with_reducible show rvEq _ _ _ _) | (with_reducible show svEq _ _ _ _) | (with_reducible show cellEq _ _ _ _) | (with_reducible show blkEq _ _ _)); conv => whnf))
      all_goals first
        | exact Nat.zero_le _
        | exact Up.zero _
        | rfl
        | (show slG encI (cntL m.toNat []) _ _ = [Cell.i 0].getD _ Cell.any; exact slG_cntz (by assumption) (by assumption))
        | trace_state
    rintro k ⟨hk, hu⟩
    have hk : k ≤ l.length := hk
    repeat' (first | (intro h; first | exact Bool.noConfusion h | (guard_hyp h : true = true; clear h) | (guard_hyp h : false = false; clear h) | (simp only [decide_eq_true_eq, decide_eq_false_iff_not, beq_iff_eq, beq_eq_false_iff_ne, bne_iff_ne, bne_eq_false_iff_eq, Bool.not_eq_true', Bool.not_eq_false', ne_eq, Classical.not_not, Bool.not_true, Bool.not_false, beqL_iff, beqL_ff, List.cons.injEq, and_true] at h) | skip) | ((conv => whnf) <;> (first | exact True.intro | apply br_rec | apply And.intro | refine CutE.at (A := Nat) (k + 1) ?_ | apply EntP.k0 | apply EntP.k1 | apply EntP.k2 | apply EntP.k3 | apply EntP.k4 | apply EntP.k5 | apply EntP.k6 | apply DrawP.go | (apply AnyP.mk; kernel_rfl) | (refine AggP.go 2 rfl (by kernel_rfl) ?_) | (refine AggP.go 1 rfl (by kernel_rfl) ?_) | (refine AggP.go 3 rfl (by kernel_rfl) ?_) | (refine AggP.go 4 rfl (by kernel_rfl) ?_) | (refine AggP.go 5 rfl (by kernel_rfl) ?_) | (refine AggP.go 8 rfl (by kernel_rfl) ?_) | (refine AggP.go 11 rfl (by kernel_rfl) ?_) | apply CallP.own0 | apply CallP.own1 | apply CallP.own2 | apply CallP.own3 | apply CallP.nb | apply CutE.go0 | apply CutE.go7 | apply CutE.go6 | apply CutE.go5 | apply CutE.go4 | apply CutE.go3 | apply CutE.go2 | apply CutE.go1 | apply RoP.id | apply wrapS | (with_reducible exact lenNil) | apply Eq.refl)) | ((first | (with_reducible show rvEq _ _ _ _) | (with_reducible show svEq _ _ _ _) | (with_reducible show cellEq _ _ _ _) | (with_reducible show blkEq _ _ _)); conv => whnf))
    all_goals try simp only [Int.toNat_natCast] at *
    all_goals first
      | omega
      | (show l.length - (k + 1) < l.length - k; omega)
      | (show k + 1 ≤ l.length; omega)
      | exact sh_step hlen (by omega) (by omega) (by omega) (by assumption) (by assumption)
      | exact hu.succ ⟨by omega, by omega⟩
      | (exfalso; exact Bool.noConfusion (h2.symm.trans (bad_no (k := k) (by omega) hu)))
      | (exfalso; exact Bool.noConfusion (h2.symm.trans (bad_yes (many := m) (k := k) (by omega) (by omega))))
      | exact (cntL_len _ _).symm
      | (show (cntL m.toNat l).length = m.toNat; exact cntL_len _ _)
      | (rw [show k = l.length by omega, List.take_length])
      | trace_state
end Go.Eng
