/- A history's spans as the reference tells them. -/
import Derived.Test.YthhangpcedbhdaaHiD
set_option linter.unusedVariables false
set_option linter.unusedSimpArgs false
namespace Go.Eng
open Go Go.Proofs

/-- How many events of a kind a thread has among the first. -/
def cK (l : List Ev) (th kd : Int) : Nat → Int
  | 0 => 0
  | k + 1 => cK l th kd k + if (l.getD k default).2.1 = th ∧ (l.getD k default).1 = kd then 1 else 0
theorem cK_in (l : List Ev) (th kd : Int) : ∀ k : Nat, 0 ≤ cK l th kd k ∧ cK l th kd k ≤ k
  | 0 => ⟨Int.le_refl _, Int.le_refl _⟩
  | k + 1 => by
    have := cK_in l th kd k
    unfold cK
    split <;> omega
/-- May the event be there? -/
def rOk (l : List Ev) (i : Nat) : Prop := ((l.getD i default).1 = 0 → cK l (l.getD i default).2.1 0 i - cK l (l.getD i default).2.1 1 i = 0) ∧ ((l.getD i default).1 = 1 → cK l (l.getD i default).2.1 0 i - cK l (l.getD i default).2.1 1 i = 1)
instance (l : List Ev) (i : Nat) : Decidable (rOk l i) := by unfold rOk; infer_instance
theorem hR_iff {l : List Ev} : ∀ (r : List Ev) (k : Nat) (f : Int → Int), k ≤ l.length → l.drop k = r → (∀ a, f a = cK l a 0 k - cK l a 1 k) → (hR r f = true ↔ ∀ i, k ≤ i → i < l.length → rOk l i)
  | [], k, f, hk, hr, hf => by
    have : l.length ≤ k := by
      have := congrArg List.length hr
      rw [List.length_drop, List.length_nil] at this
      omega
    exact ⟨fun _ i h1 h2 => by omega, fun _ => rfl⟩
  | x :: r, k, f, hk, hr, hf => by
    have hkl : k < l.length := by
      have := congrArg List.length hr
      rw [List.length_drop, List.length_cons] at this
      omega
    rw [drop_getD (d := default) hkl] at hr
    have hx := (List.cons.inj hr).1
    have hr2 := (List.cons.inj hr).2
    have hc : ∀ a kd, cK l a kd (k + 1) = cK l a kd k + if x.2.1 = a ∧ x.1 = kd then 1 else 0 := fun a kd => by rw [← hx]; rfl
    have hro : rOk l k ↔ (x.1 = 0 → f x.2.1 = 0) ∧ (x.1 = 1 → f x.2.1 = 1) := by unfold rOk; rw [hx, hf]
    have split1 : (∀ i, k ≤ i → i < l.length → rOk l i) ↔ rOk l k ∧ ∀ i, k + 1 ≤ i → i < l.length → rOk l i := by
      refine ⟨fun h => ⟨h k (Nat.le_refl _) hkl, fun i h1 h2 => h i (by omega) h2⟩, fun h i h1 h2 => ?_⟩
      by_cases e : i = k
      · rw [e]; exact h.1
      · exact h.2 i (by omega) h2
    rw [split1, hro, hR]
    by_cases hs : ¬ x.1 = 0 ∧ ¬ x.1 = 1
    · rw [if_pos hs, hR_iff r (k + 1) f hkl hr2 (fun a => by rw [hc, hc, if_neg (fun q => hs.1 q.2), if_neg (fun q => hs.2 q.2), hf]; omega)]
      exact ⟨fun h => ⟨⟨fun q => absurd q hs.1, fun q => absurd q hs.2⟩, h⟩, fun h => h.2⟩
    · rw [if_neg hs]
      by_cases he : f x.2.1 = x.1
      · rw [if_pos he, hR_iff r (k + 1) _ hkl hr2 (fun a => by
          show (if a = x.2.1 then 1 - x.1 else f a) = _
          rw [hc, hc]
          have := hf x.2.1
          have := hf a
          by_cases e : a = x.2.1
          · subst e
            rw [if_pos rfl]
            by_cases e0 : x.1 = 0
            · rw [if_pos ⟨rfl, e0⟩, if_neg (fun q => by have := q.2; omega)]; omega
            · rw [if_neg (fun q => e0 q.2), if_pos ⟨rfl, by omega⟩]; omega
          · rw [if_neg e, if_neg (fun q => e q.1.symm), if_neg (fun q => e q.1.symm)]; omega)]
        exact ⟨fun h => ⟨⟨fun q => by omega, fun q => by omega⟩, h⟩, fun h => h.2⟩
      · rw [if_neg he]
        refine ⟨fun h => absurd h Bool.noConfusion, fun h => ?_⟩
        have h1 := h.1.1
        have h2 := h.1.2
        exfalso
        omega
theorem right_iff {l : List Ev} : hRight l = true ↔ ∀ i, i < l.length → rOk l i := by
  unfold hRight
  rw [hR_iff l 0 (fun _ => 0) (Nat.zero_le _) rfl (fun a => rfl)]
  exact ⟨fun h i hi => h i (Nat.zero_le _) hi, fun h i _ hi => h i hi⟩
/-- Where a thread's call that began at i ends, among the first events. -/
def endG (l : List Ev) (th : Int) (i : Nat) : Nat → Int
  | 0 => -1
  | k + 1 => if endG l th i k < 0 ∧ i < k ∧ (l.getD k default).2.1 = th ∧ (l.getD k default).1 = 1 then (k : Int) else endG l th i k
theorem endG_in (l : List Ev) (th : Int) (i : Nat) : ∀ k : Nat, endG l th i k = -1 ∨ ((i : Int) < endG l th i k ∧ endG l th i k < k)
  | 0 => .inl rfl
  | k + 1 => by
    have := endG_in l th i k
    unfold endG
    split
    · rename_i h; have := h.2.1; omega
    · omega
theorem endG_none (l : List Ev) (th : Int) (i : Nat) : ∀ k : Nat, k ≤ i + 1 → endG l th i k = -1
  | 0, _ => rfl
  | k + 1, h => by
    unfold endG
    rw [if_neg (fun q => by have := q.2.1; omega)]
    exact endG_none l th i k (by omega)
/-- The call that began at i, as far as it is known behind the first events. -/
def mkG (l : List Ev) (k i : Nat) : Sp :=
  ⟨(l.getD i default).2.1, cK l (l.getD i default).2.1 0 i, (l.getD i default).2.2.1, (l.getD i default).2.2.2.1, (l.getD i default).2.2.2.2.1, (l.getD i default).2.2.2.2.2,
    if endG l (l.getD i default).2.1 i k < 0 then 0 else (l.getD (endG l (l.getD i default).2.1 i k).toNat default).2.2.1,
    if endG l (l.getD i default).2.1 i k < 0 then 0 else (l.getD (endG l (l.getD i default).2.1 i k).toNat default).2.2.2.1, i, endG l (l.getD i default).2.1 i k⟩
def beg (l : List Ev) : Nat → List Nat
  | 0 => []
  | k + 1 => if (l.getD k default).1 = 0 then beg l k ++ [k] else beg l k
def spG (l : List Ev) (k : Nat) : List Sp := (beg l k).map (mkG l k)
theorem mkG_same {l : List Ev} {k i : Nat} (h : ¬ (endG l (l.getD i default).2.1 i k < 0 ∧ i < k ∧ (l.getD k default).2.1 = (l.getD i default).2.1 ∧ (l.getD k default).1 = 1)) : mkG l (k + 1) i = mkG l k i := by
  have e : endG l (l.getD i default).2.1 i (k + 1) = endG l (l.getD i default).2.1 i k := by rw [endG, if_neg h]
  unfold mkG
  rw [e]
theorem mkG_end {l : List Ev} {k i : Nat} (h : endG l (l.getD i default).2.1 i k < 0) (h2 : i < k) (h3 : (l.getD k default).2.1 = (l.getD i default).2.1) (h4 : (l.getD k default).1 = 1) :
    mkG l (k + 1) i = { mkG l k i with why := (l.getD k default).2.2.1, rv := (l.getD k default).2.2.2.1, to := k } := by
  have e : endG l (l.getD i default).2.1 i (k + 1) = k := by rw [endG, if_pos ⟨h, h2, h3, h4⟩]
  unfold mkG
  rw [e, if_neg (by omega), if_neg (by omega), Int.toNat_natCast]
theorem beg_in (l : List Ev) : ∀ (k i : Nat), i ∈ beg l k → i < k
  | 0, i, h => by cases h
  | k + 1, i, h => by
    unfold beg at h
    split at h
    · rcases List.mem_append.1 h with h | h
      · have := beg_in l k i h; omega
      · have : i = k := by simpa using h
        omega
    · have := beg_in l k i h; omega
theorem sp_all {l : List Ev} : ∀ (r : List Ev) (k : Nat) (out : List Sp) (op mn f : Int → Int), k ≤ l.length → l.drop k = r → SpQ k out op mn f → hR r f = true → out = spG l k → (∀ a, mn a = cK l a 0 k) → hS r k (out, op, mn) = spG l l.length
  | [], k, out, op, mn, f, hk, hr, h, _, ho, _ => by
    have : k = l.length := by
      have := congrArg List.length hr
      rw [List.length_drop, List.length_nil] at this
      omega
    subst this
    exact ho
  | x :: r, k, out, op, mn, f, hk, hr, h, hR0, ho, hm => by
    have hkl : k < l.length := by
      have := congrArg List.length hr
      rw [List.length_drop, List.length_cons] at this
      omega
    rw [drop_getD (d := default) hkl] at hr
    have hx := (List.cons.inj hr).1
    have hr2 := (List.cons.inj hr).2
    have hc : ∀ a, cK l a 0 (k + 1) = cK l a 0 k + if x.2.1 = a ∧ x.1 = 0 then 1 else 0 := fun a => by rw [← hx]; rfl
    rw [hR] at hR0
    rw [hS]
    by_cases hs : ¬ x.1 = 0 ∧ ¬ x.1 = 1
    · rw [if_pos hs] at hR0
      rw [spS, if_neg hs.1, if_neg hs.2]
      refine sp_all r (k + 1) out op mn f hkl hr2 h.skip hR0 ?_ fun a => by rw [hc, if_neg (fun q => hs.1 q.2), hm]; omega
      rw [ho]
      unfold spG
      rw [show beg l (k + 1) = beg l k by rw [beg, hx, if_neg hs.1]]
      refine List.map_congr_left fun i hi => (mkG_same fun q => hs.2 ?_).symm
      rw [← hx]; exact q.2.2.2
    · rw [if_neg hs] at hR0
      by_cases he : f x.2.1 = x.1
      · rw [if_pos he] at hR0
        by_cases h0 : x.1 = 0
        · rw [spS, if_pos h0]
          rw [h0] at hR0 he
          refine sp_all r (k + 1) _ _ _ _ hkl hr2 (h.begins he ⟨rfl, rfl, rfl, rfl⟩) hR0 ?_ fun a => ?_
          · unfold spG
            rw [show beg l (k + 1) = beg l k ++ [k] by rw [beg, hx, if_pos h0], List.map_append]
            have e1 : (beg l k).map (mkG l (k + 1)) = (beg l k).map (mkG l k) := List.map_congr_left fun i hi => mkG_same fun q => by
              have := q.2.2.2
              rw [hx, h0] at this
              exact absurd this (by decide)
            rw [e1]
            show out ++ [_] = _
            rw [ho]
            show (beg l k).map (mkG l k) ++ [_] = (beg l k).map (mkG l k) ++ [mkG l (k + 1) k]
            congr 2
            unfold mkG
            rw [hx, endG_none l x.2.1 k (k + 1) (Nat.le_refl _), if_pos (by decide), if_pos (by decide), ← hm]
          · show (if a = x.2.1 then mn a + 1 else mn a) = _
            rw [hc]
            by_cases e : a = x.2.1
            · rw [if_pos e, if_pos ⟨e.symm, h0⟩, hm]
            · rw [if_neg e, if_neg (fun q => e q.1.symm), hm]; omega
        · have h1 : x.1 = 1 := by omega
          rw [spS, if_neg h0, if_pos h1]
          rw [h1] at hR0 he
          obtain ⟨i1, i2, i3, i4⟩ := h.ix _ he
          refine sp_all r (k + 1) _ _ _ _ hkl hr2 (h.ends he) hR0 ?_ fun a => by show mn a = _; rw [hc, if_neg (fun q => h0 q.2), hm]; omega
          have hb : beg l (k + 1) = beg l k := by rw [beg, hx, if_neg h0]
          have hlen : out.length = (beg l k).length := by rw [ho]; exact List.length_map _
          have hat : ∀ q, q < out.length → out.getD q default = mkG l k ((beg l k).getD q 0) ∧ (beg l k).getD q 0 < k := by
            intro q hq
            have hq' : q < (beg l k).length := by omega
            constructor
            · rw [ho]
              unfold spG
              rw [List.getD_eq_getElem?_getD, List.getElem?_map, List.getElem?_eq_getElem hq', List.getD_eq_getElem?_getD, List.getElem?_eq_getElem hq']; rfl
            · rw [List.getD_eq_getElem?_getD, List.getElem?_eq_getElem hq']
              exact beg_in l k _ (List.getElem_mem hq')
          apply List.ext_getElem
          · rw [List.length_set]; unfold spG; rw [hb, List.length_map]; exact hlen
          intro q hq hq2
          have hq : q < out.length := by rw [List.length_set] at hq; exact hq
          obtain ⟨a1, a2⟩ := hat q hq
          have lhs : (spG l (k + 1))[q] = mkG l (k + 1) ((beg l k).getD q 0) := by
            have hq' : q < (beg l k).length := by omega
            rw [show (spG l (k + 1))[q] = (spG l (k + 1)).getD q default by rw [List.getD_eq_getElem?_getD, List.getElem?_eq_getElem hq2]; rfl]
            unfold spG
            rw [List.getD_eq_getElem?_getD, List.getElem?_map, hb, List.getElem?_eq_getElem hq', List.getD_eq_getElem?_getD, List.getElem?_eq_getElem hq']; rfl
          rw [lhs, List.getElem_set]
          have hoq : out[q] = out.getD q default := by rw [List.getD_eq_getElem?_getD, List.getElem?_eq_getElem hq]; rfl
          by_cases e : (op x.2.1).toNat = q
          · rw [if_pos e]
            rw [e] at i3 i4 ⊢
            rw [a1] at i3 i4 ⊢
            have i3 : (l.getD ((beg l k).getD q 0) default).2.1 = x.2.1 := i3
            have i4 : endG l (l.getD ((beg l k).getD q 0) default).2.1 ((beg l k).getD q 0) k = -1 := i4
            rw [mkG_end (by omega) a2 (by rw [hx, i3]) (by rw [hx]; exact h1), hx]
          · rw [if_neg e, hoq, a1]
            refine (mkG_same fun z => e ?_).symm
            obtain ⟨z1, z2, z3, z4⟩ := z
            have ho2 := h.opn q hq
            rw [a1] at ho2
            have hin := endG_in l (l.getD ((beg l k).getD q 0) default).2.1 ((beg l k).getD q 0) k
            have ho2 := ho2 (show endG l (l.getD ((beg l k).getD q 0) default).2.1 ((beg l k).getD q 0) k = -1 by omega)
            have ho3 : op (l.getD ((beg l k).getD q 0) default).2.1 = q := ho2.2
            rw [← z3, hx] at ho3
            omega
      · rw [if_neg he] at hR0; cases hR0
theorem spansF_is {l : List Ev} (h : hRight l = true) : spansF l = spG l l.length :=
  sp_all l 0 [] (fun _ => 0) (fun _ => 0) (fun _ => 0) (Nat.zero_le _) rfl ⟨fun i hi => absurd hi (Nat.not_lt_zero _), fun i j _ hj => absurd hj (Nat.not_lt_zero _), fun i hi => absurd hi (Nat.not_lt_zero _), fun i hi => absurd hi (Nat.not_lt_zero _), fun i hi => absurd hi (Nat.not_lt_zero _), fun a ha => absurd ha (by decide), fun i j _ hj => absurd hj (Nat.not_lt_zero _)⟩ h rfl fun _ => rfl
end Go.Eng
