/- A broad: what is so while it waits. -/
import Derived.Test.YtgahcoccodhkmaaGreatStFb
set_option linter.unusedVariables false
set_option linter.unusedSimpArgs false
namespace Go.Eng
open Go Go.Proofs

def sumN : List Int → Int
  | [] => 0
  | x :: r => x + sumN r
theorem sumN_app (a b : List Int) : sumN (a ++ b) = sumN a + sumN b := by
  induction a with
  | nil => simp [sumN]
  | cons x r ih => simp only [List.cons_append, sumN, ih]; omega
theorem sumN_take {l : List Int} {k : Nat} (hk : k < l.length) : sumN (l.take (k + 1)) = sumN (l.take k) + l.getD k default := by
  rw [take_getD (d := default) hk, sumN_app]
  simp [sumN]
theorem sumN_in : ∀ (l : List Int), (∀ x ∈ l, 0 ≤ x ∧ x ≤ 8) → 0 ≤ sumN l ∧ sumN l ≤ 8 * l.length
  | [], _ => ⟨Int.le_refl _, by simp [sumN]⟩
  | x :: r, h => by
    have h1 := h x (by simp)
    have h2 := sumN_in r fun y hy => h y (by simp [hy])
    simp only [sumN, List.length_cons]
    omega
theorem sumN_any : ∀ (l : List Int), (∀ x ∈ l, 0 ≤ x ∧ x ≤ 8) → (!l.any fun n => decide (n > 0)) = decide (sumN l = 0)
  | [], _ => rfl
  | x :: r, h => by
    have h1 := h x (by simp)
    have h3 : ∀ y ∈ r, 0 ≤ y ∧ y ≤ 8 := fun y hy => h y (by simp [hy])
    have h2 := sumN_any r h3
    have h4 := sumN_in r h3
    rw [List.any_cons, Bool.not_or, h2]
    rw [Bool.eq_iff_iff]
    simp only [Bool.and_eq_true, Bool.not_eq_true', decide_eq_true_eq, decide_eq_false_iff_not]
    show (¬ x > 0 ∧ sumN r = 0) ↔ x + sumN r = 0
    omega
structure BrI (N : Wd) (i : Int) (W : List Int) (m : Nat) : Prop where
  r : worldR N = true
  ev : N.ev.length ≤ m
  h : 0 ≤ i ∧ i < N.th.length
  n : W.length = N.l.length
  nn : ∀ x ∈ W, 0 ≤ x ∧ x ≤ 8
  run : (thOf N i).st = 0 → (thOf N i).lf = W ∧ (thOf N i).pc < N.code.length ∧ (insOf N (thOf N i)).1 = 22
theorem BrI.can {N : Wd} {i : Int} {W : List Int} {m : Nat} (h : BrI N i W m) (hs : (thOf N i).st = 0) : canF N i = decide (sumN W = 0) := by
  obtain ⟨h1, h2, h3⟩ := h.run hs
  rw [canF_22 hs (by omega) h3, h1, sumN_any W h.nn]
theorem BrI.le {N : Wd} {i : Int} {W : List Int} {m k : Nat} (h : BrI N i W m) (hk : m ≤ k) : BrI N i W k := ⟨h.r, by have := h.ev; omega, h.h, h.n, h.nn, h.run⟩
theorem BrI.other {N : Wd} {i : Int} {W : List Int} {m : Nat} (h : BrI N i W m) {a : Act} (h1 : ¬ (a.1 = 0 ∧ a.2 = i)) (h2 : ¬ (a.1 = 1 ∧ hasW N a.2 = true ∧ 0 < (N.l.getD a.2.toNat default).length)) : BrI (doF N a) i W (m + 1) := by
  by_cases hd : doneF N a = true
  · have ho := done_ok h.r hd
    by_cases h0 : a.1 = 0
    · have hst := can_st (done_can h.r hd h0)
      have hk := step_keeps ho hst
      have hne : ¬ i = a.2 := fun e => h1 ⟨h0, e.symm⟩
      have hi := h.h
      have hth : (stepF N a.2).th.getD i.toNat default = N.th.getD i.toNat default := hk.th i.toNat (by omega)
      obtain ⟨e, he, hl⟩ := hk.ev
      rw [doF_step hd h0]
      refine ⟨hk.r, by rw [he, List.length_append]; have := h.ev; omega, by rw [hk.n]; exact hi, by rw [hk.ln]; exact h.n, h.nn, fun hs => ?_⟩
      have hs' : (thOf N i).st = 0 := by
        show (N.th.getD i.toNat default).st = 0
        rw [← hth]; exact hs
      obtain ⟨q1, q2, q3⟩ := h.run hs'
      refine ⟨by show ((stepF N a.2).th.getD i.toNat default).lf = W; rw [hth]; exact q1, ?_, ?_⟩
      · show ((stepF N a.2).th.getD i.toNat default).pc < ((stepF N a.2).code.length : Int)
        rw [hth, hk.code]; exact q2
      · show ((stepF N a.2).code.getD ((stepF N a.2).th.getD i.toNat default).pc.toNat default).1 = 22
        rw [hth, hk.code]; exact q3
    · exact absurd ⟨(done_flush h.r hd h0).1, hasW_iff.2 ho.h, (done_flush h.r hd h0).2⟩ h2
  · rw [doF_no hd]; exact h.le (by omega)
def lessW (W : List Int) (j : Int) : List Int := if W.getD j.toNat default > 0 then W.set j.toNat (W.getD j.toNat default - 1) else W
theorem lessW_eq {W : List Int} {j : Int} (hj : j.toNat < W.length) (h : ∀ x ∈ W, 0 ≤ x ∧ x ≤ 8) : W.set j.toNat (decF (W.getD j.toNat default)) = lessW W j := by
  have h0 : 0 ≤ W.getD j.toNat default ∧ W.getD j.toNat default ≤ 8 := by
    rw [List.getD_eq_getElem?_getD, List.getElem?_eq_getElem hj]; exact h _ (List.getElem_mem hj)
  unfold lessW decF
  by_cases hp : W.getD j.toNat default > 0
  · rw [if_pos hp, if_pos hp]
  · rw [if_neg hp, if_neg hp]
    apply List.ext_getElem (by simp)
    intro k h1 h2
    rw [List.getElem_set]
    split
    · rename_i e; subst e
      rw [List.getD_eq_getElem?_getD, List.getElem?_eq_getElem h2] at h0 hp
      have h0 : 0 ≤ W[j.toNat] ∧ W[j.toNat] ≤ 8 := h0
      have hp : ¬ W[j.toNat] > 0 := hp
      omega
    · rfl
theorem lessW_in {W : List Int} {j : Int} (h : ∀ x ∈ W, 0 ≤ x ∧ x ≤ 8) : ∀ x ∈ lessW W j, 0 ≤ x ∧ x ≤ 8 := by
  intro x hx
  unfold lessW at hx
  split at hx
  · rename_i hp
    rcases List.mem_or_eq_of_mem_set hx with hx | rfl
    · exact h x hx
    · by_cases hj : j.toNat < W.length
      · have := h _ (List.getElem_mem hj)
        rw [List.getD_eq_getElem?_getD, List.getElem?_eq_getElem hj] at hp ⊢
        have hp : W[j.toNat] > 0 := hp
        show 0 ≤ W[j.toNat] - 1 ∧ W[j.toNat] - 1 ≤ 8
        omega
      · rw [List.getD_eq_getElem?_getD, List.getElem?_eq_none (by omega)] at hp
        exact absurd hp (by decide)
  · exact h x hx
theorem lessW_len (W : List Int) (j : Int) : (lessW W j).length = W.length := by unfold lessW; split <;> simp
theorem BrI.flush {N : Wd} {i : Int} {W : List Int} {m : Nat} (h : BrI N i W m) {j : Int} (hh : hasW N j = true) : BrI (flushF N j) i (lessW W j) (m + 1) := by
  have hi := hasW_iff.1 hh
  have hk := flush_keeps ⟨h.r, hi⟩
  have hl := world_len h.r
  refine ⟨hk.r, by rw [hk.ev]; have := h.ev; omega, by rw [hk.n]; exact h.h, by rw [lessW_len, hk.ln]; exact h.n, lessW_in h.nn, fun hs => ?_⟩
  have hs0 : (thOf N i).st = 0 := by
    rcases hk.st i.toNat with ⟨e, _⟩ | ⟨_, e⟩
    · exact e.symm.trans hs
    · have hs : ((flushF N j).th.getD i.toNat default).st = 0 := hs
      omega
  obtain ⟨q1, q2, q3⟩ := h.run hs0
  have q1 : (N.th.getD i.toNat default).lf = W := q1
  have hn := h.n
  refine ⟨?_, ?_, ?_⟩
  · show ((flushF N j).th.getD i.toNat default).lf = _
    rw [hk.lf i.toNat, q1, if_pos (by omega), lessW_eq (by omega) h.nn]
  · show ((flushF N j).th.getD i.toNat default).pc < ((flushF N j).code.length : Int)
    rw [hk.pc, hk.code]; exact q2
  · show ((flushF N j).code.getD ((flushF N j).th.getD i.toNat default).pc.toNat default).1 = 22
    rw [hk.pc, hk.code]; exact q3
/-- The world whose thread is at a broad. -/
def brW (v : Wd) (i : Int) : Wd := ⟨v.code.set (thOf v i).pc.toNat (22, 0, 0, 0), v.ws, v.ts, v.d, v.l, v.th, v.ev⟩
structure Br0 (u : Wd) (i : Int) : Prop where
  k : Wok u
  h : 0 ≤ i ∧ i < u.th.length
  st : (thOf u i).st = 0
  pc : (thOf u i).pc < u.code.length
  lf : (thOf u i).lf.length = 0
  op : insOf u (thOf u i) = (22, 0, 0, 0)
theorem okV_z0 (n : Int) : okV n 0 0 = true := by unfold okV; rw [decide_eq_true_eq]; omega
theorem ins22 (n : Int) : insR n (22, 0, 0, 0) = true := by
  refine insR_iff.2 ⟨by decide, fun k hk => ?_⟩
  have : k = 0 ∨ k = 1 ∨ k = 2 := by omega
  rcases this with rfl | rfl | rfl <;> (show okV n (kdF 22 _) 0 = true; exact okV_z0 _)
theorem br_start {v : Wd} {i : Int} (hk : Wok v) (h : 0 ≤ i ∧ i < v.th.length) (st : (thOf v i).st = 0) (pc : (thOf v i).pc < v.code.length) (lf : ¬ (thOf v i).lf.length > 0) : Br0 (brW v i) i := by
  have hp := (WOk.pc ⟨hk.r, h⟩ : 0 ≤ (thOf v i).pc ∧ (thOf v i).pc ≤ 1000)
  have hcl : (v.code.set (thOf v i).pc.toNat (22, 0, 0, 0)).length = v.code.length := List.length_set
  obtain ⟨w1, w2, w3, w4⟩ := worldR_iff.1 hk.r
  refine ⟨⟨worldR_iff.2 ⟨codeR_iff.2 ⟨by rw [show (brW v i).code.length = v.code.length from hcl]; exact (codeR_iff.1 w1).1, fun j hj => ?_⟩, w2, w3, w4⟩, hk.ev⟩, h, st, by rw [show (brW v i).code.length = v.code.length from hcl]; exact pc, by show (thOf v i).lf.length = 0; omega, ?_⟩
  · have hj : j < (v.code.set (thOf v i).pc.toNat (22, 0, 0, 0)).length := hj
    rw [show (brW v i).code.length = v.code.length from hcl]
    show insR v.code.length ((v.code.set (thOf v i).pc.toNat (22, 0, 0, 0)).getD j default) = true
    rw [List.getD_eq_getElem?_getD, List.getElem?_eq_getElem hj, Option.getD_some, List.getElem_set]
    split
    · exact ins22 _
    · have := (codeR_iff.1 w1).2 j (by omega)
      rwa [List.getD_eq_getElem?_getD, List.getElem?_eq_getElem (by omega)] at this
  · show (v.code.set (thOf v i).pc.toNat (22, 0, 0, 0)).getD (thOf v i).pc.toNat default = _
    rw [List.getD_eq_getElem?_getD, List.getElem?_set_self (by omega)]; rfl
theorem br_can {u : Wd} {i : Int} (h : Br0 u i) : canF u i = true := by
  rw [canF_22 h.st (by have := h.pc; omega) (by rw [h.op]), List.eq_nil_of_length_eq_zero h.lf]; rfl
theorem br_step {u : Wd} {i : Int} (h : Br0 u i) : BrI (stepF u i) i (waits u) (u.ev.length + 1) ∧ (stepF u i).th.length = u.th.length := by
  have ho : WOk u i := ⟨h.k.r, h.h⟩
  have hh := h.h
  have hk := step_keeps ho h.st
  have hlen := world_len h.k.r
  have hpc := ho.pc
  obtain ⟨e, he, hl⟩ := hk.ev
  have hS : stepF u i = putW u i (leftT (thOf u i) (waits u)) := by
    rw [stepF_in (by have := h.pc; omega) h.op]
    show finW u i (broadP u i) = _
    rw [finW_ok (broadP_err u i)]
    unfold broadP
    rw [if_neg (by have := h.lf; omega)]
    rfl
  have hT : (stepF u i).th.getD i.toNat default = leftT (thOf u i) (waits u) := by rw [hS]; exact withT_get hh
  refine ⟨⟨hk.r, by rw [he, List.length_append]; omega, by rw [hk.n]; exact hh, by rw [hk.ln]; exact List.length_map _, fun x hx => ?_, fun _ => ?_⟩, hk.n⟩
  · obtain ⟨w1, w2⟩ := waits_ok h.k.r
    have := List.any_eq_false.1 w2 x hx
    unfold badN at this
    simp only [decide_eq_true_eq] at this
    omega
  · refine ⟨by show ((stepF u i).th.getD i.toNat default).lf = _; rw [hT]; rfl, ?_, ?_⟩
    · show ((stepF u i).th.getD i.toNat default).pc < ((stepF u i).code.length : Int)
      rw [hT, hk.code]; exact h.pc
    · show ((stepF u i).code.getD ((stepF u i).th.getD i.toNat default).pc.toNat default).1 = 22
      rw [hT, hk.code]
      have := h.op
      show (insOf u (thOf u i)).1 = 22
      rw [this]
end Go.Eng
