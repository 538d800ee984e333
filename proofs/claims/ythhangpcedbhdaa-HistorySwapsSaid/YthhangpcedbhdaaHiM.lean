/- A history without what counts for nothing, and with two events changed about. -/
import Derived.Test.YthhangpcedbhdaaHiL
set_option linter.unusedVariables false
set_option linter.unusedSimpArgs false
namespace Go.Eng
open Go Go.Proofs

theorem Corr.rfl' (l : List Ev) : Corr l l fun p => p :=
  ⟨fun p hp _ => ⟨hp, rfl⟩, fun q hq hc => ⟨q, hq, hc, rfl⟩, fun _ _ h _ _ _ _ => h, fun _ _ _ _ _ _ => Iff.rfl, fun _ _ _ _ _ _ h => h⟩
theorem Corr.comp {a b c : List Ev} {f g : Nat → Nat} (h : Corr a b f) (k : Corr b c g) : Corr a c fun p => g (f p) := by
  refine ⟨fun p hp hc => ?_, fun q hq hc => ?_, fun p q hpq hq hc hc2 ht => ?_, fun p q hp hq h1 h2 => ?_, fun p q hp hq hc hc2 e => ?_⟩
  · obtain ⟨h1, h2⟩ := h.im p hp hc
    obtain ⟨h3, h4⟩ := k.im (f p) h1 (by rw [h2]; exact hc)
    exact ⟨h3, by rw [h4, h2]⟩
  · obtain ⟨r, h1, h2, h3⟩ := k.sj q hq hc
    obtain ⟨s, h4, h5, h6⟩ := h.sj r h1 h2
    exact ⟨s, h4, h5, by rw [h6, h3]⟩
  · obtain ⟨h1, h2⟩ := h.im p (by omega) hc
    obtain ⟨h3, h4⟩ := h.im q hq hc2
    exact k.th _ _ (h.th p q hpq hq hc hc2 ht) h3 (by rw [h2]; exact hc) (by rw [h4]; exact hc2) (by rw [h2, h4]; exact ht)
  · obtain ⟨h3, h4⟩ := h.im p hp (.inr h1)
    obtain ⟨h5, h6⟩ := h.im q hq (.inl h2)
    rw [h.be p q hp hq h1 h2]
    exact k.be _ _ h3 h5 (by rw [h4]; exact h1) (by rw [h6]; exact h2)
  · obtain ⟨h3, h4⟩ := h.im p hp hc
    obtain ⟨h5, h6⟩ := h.im q hq hc2
    exact h.ij p q hp hq hc hc2 (k.ij _ _ h3 h5 (by rw [h4]; exact hc) (by rw [h6]; exact hc2) e)
instance (x : Ev) : Decidable (isC x) := by unfold isC; infer_instance
def cb (l : List Ev) : List Ev := l.filter fun x => decide (isC x)
def cbN (l : List Ev) (k : Nat) : Nat := (cb (l.take k)).length
theorem cb_snoc {l : List Ev} {k : Nat} (hk : k < l.length) : cb (l.take (k + 1)) = cb (l.take k) ++ if isC (l.getD k default) then [l.getD k default] else [] := by
  rw [take_getD (d := default) hk]
  unfold cb
  rw [List.filter_append]
  congr 1
  by_cases e : isC (l.getD k default)
  · rw [if_pos e, List.filter_cons, decide_eq_true e]; rfl
  · rw [if_neg e, List.filter_cons, decide_eq_false e]; rfl
theorem cbN_succ {l : List Ev} {k : Nat} (hk : k < l.length) : cbN l (k + 1) = cbN l k + if isC (l.getD k default) then 1 else 0 := by
  unfold cbN
  rw [cb_snoc hk, List.length_append]
  split <;> rfl
theorem cbN_all (l : List Ev) : cbN l l.length = (cb l).length := by unfold cbN; rw [List.take_length]
theorem cb_getD {l : List Ev} {k : Nat} (hk : k < l.length) (h : isC (l.getD k default)) : (cb l).getD (cbN l k) default = l.getD k default := by
  have e2 : cb l = cb (l.take k) ++ l.getD k default :: cb (l.drop (k + 1)) := by
    conv => lhs; rw [(List.take_append_drop k l).symm, drop_getD (d := default) hk]
    unfold cb
    rw [List.filter_append, List.filter_cons, decide_eq_true h]; rfl
  rw [e2]
  unfold cbN
  rw [List.getD_eq_getElem?_getD, List.getElem?_append_right (Nat.le_refl _), Nat.sub_self]; rfl
theorem cbN_mono {l : List Ev} {j : Nat} : ∀ {k : Nat}, j ≤ k → k ≤ l.length → cbN l j ≤ cbN l k
  | 0, h, _ => by rw [show j = 0 by omega]; exact Nat.le_refl _
  | k + 1, h, hk => by
    by_cases e : j = k + 1
    · rw [e]; exact Nat.le_refl _
    · have := cbN_mono (l := l) (j := j) (k := k) (by omega) (by omega)
      rw [cbN_succ (by omega)]
      omega
theorem cbN_lt {l : List Ev} {e k : Nat} (he : isC (l.getD e default)) (h : e < k) (hk : k ≤ l.length) : cbN l e < cbN l k := by
  have := cbN_mono (l := l) (j := e + 1) (k := k) h hk
  rw [cbN_succ (by omega), if_pos he] at this
  omega
theorem cbN_find {l : List Ev} : ∀ k, k ≤ l.length → ∀ f, f < cbN l k → ∃ e, e < k ∧ isC (l.getD e default) ∧ cbN l e = f
  | 0, _, f, h => absurd h (Nat.not_lt_zero _)
  | k + 1, hk, f, h => by
    by_cases q : f < cbN l k
    · obtain ⟨e, h1, h2⟩ := cbN_find k (by omega) f q
      exact ⟨e, by omega, h2⟩
    · rw [cbN_succ (by omega)] at h
      by_cases z : isC (l.getD k default)
      · rw [if_pos z] at h
        exact ⟨k, by omega, z, by omega⟩
      · rw [if_neg z] at h; omega
theorem cbN_iff {l : List Ev} {p q : Nat} (hp : p < l.length) (hq : q < l.length) (h1 : isC (l.getD p default)) (h2 : isC (l.getD q default)) : p < q ↔ cbN l p < cbN l q := by
  constructor
  · exact fun h => cbN_lt h1 h (by omega)
  · intro h
    by_cases e : p < q
    · exact e
    · have := cbN_mono (l := l) (j := q) (k := p) (by omega) (by omega)
      omega
theorem corr_cb (l : List Ev) : Corr l (cb l) (cbN l) := by
  refine ⟨fun p hp hc => ⟨?_, cb_getD hp hc⟩, fun q hq hc => ?_, fun p q hpq hq hc hc2 _ => (cbN_iff (by omega) hq hc hc2).1 hpq, fun p q hp hq h1 h2 => cbN_iff hp hq (.inr h1) (.inl h2), fun p q hp hq hc hc2 e => ?_⟩
  · rw [← cbN_all]; exact cbN_lt hc hp (Nat.le_refl _)
  · rw [← cbN_all] at hq
    obtain ⟨e, h1, h2, h3⟩ := cbN_find l.length (Nat.le_refl _) q hq
    exact ⟨e, h1, h2, h3⟩
  · have a := cbN_iff hp hq hc hc2
    have b := cbN_iff hq hp hc2 hc
    omega
def swp (l : List Ev) (k : Nat) : List Ev := (l.set k (l.getD (k + 1) default)).set (k + 1) (l.getD k default)
def swN (k p : Nat) : Nat := if p = k then k + 1 else if p = k + 1 then k else p
theorem swp_len (l : List Ev) (k : Nat) : (swp l k).length = l.length := by unfold swp; rw [List.length_set, List.length_set]
theorem getD_setE {l : List Ev} {n m : Nat} {x : Ev} : (l.set n x).getD m default = if n = m ∧ m < l.length then x else l.getD m default := by
  rw [List.getD_eq_getElem?_getD, List.getElem?_set, List.getD_eq_getElem?_getD]
  by_cases e : n = m
  · subst e
    rw [if_pos rfl]
    by_cases h : n < l.length
    · rw [if_pos h, if_pos ⟨rfl, h⟩]; rfl
    · rw [if_neg h, if_neg (fun q => h q.2), List.getElem?_eq_none (by omega)]
  · rw [if_neg e, if_neg (fun q => e q.1)]
theorem swp_at {l : List Ev} {k p : Nat} (hk : k + 1 < l.length) (hp : p < l.length) : (swp l k).getD (swN k p) default = l.getD p default := by
  unfold swp swN
  rw [getD_setE, getD_setE, List.length_set]
  by_cases e : p = k
  · rw [if_pos e, if_pos ⟨rfl, hk⟩, e]
  · rw [if_neg e]
    by_cases e2 : p = k + 1
    · rw [if_pos e2, if_neg (by omega), if_pos ⟨rfl, by omega⟩, e2]
    · rw [if_neg e2, if_neg (by omega), if_neg (by omega)]
theorem corr_swp {l : List Ev} {k : Nat} (hk : k + 1 < l.length) (ht : ¬ (l.getD k default).2.1 = (l.getD (k + 1) default).2.1) (hd : (l.getD k default).1 = (l.getD (k + 1) default).1) : Corr l (swp l k) (swN k) := by
  have hN : ∀ p, p < l.length → swN k p < l.length := fun p hp => by unfold swN; split; omega; split <;> omega
  have hNN : ∀ p, swN k (swN k p) = p := fun p => by unfold swN; split <;> split <;> (try split) <;> omega
  refine ⟨fun p hp hc => ⟨by rw [swp_len]; exact hN p hp, swp_at hk hp⟩, fun q hq hc => ?_, fun p q hpq hq hc hc2 h => ?_, fun p q hp hq h1 h2 => ?_, fun p q hp hq hc hc2 e => ?_⟩
  · rw [swp_len] at hq
    refine ⟨swN k q, hN q hq, ?_, hNN q⟩
    have := swp_at (k := k) hk (hN q hq)
    rw [hNN] at this
    rw [← this]; exact hc
  · have hne : ¬ (p = k ∧ q = k + 1) := fun z => ht (by rw [z.1, z.2] at h; exact h)
    unfold swN
    split <;> split <;> (try split) <;> (try split) <;> omega
  · have hne : ¬ (p = k ∧ q = k + 1) := fun z => by rw [z.1] at h1; rw [z.2] at h2; omega
    have hne2 : ¬ (q = k ∧ p = k + 1) := fun z => by rw [z.2] at h1; rw [z.1] at h2; omega
    have hpq : ¬ p = q := fun z => by rw [z] at h1; omega
    unfold swN
    split <;> split <;> (try split) <;> (try split) <;> omega
  · rw [← hNN p, ← hNN q, e]
end Go.Eng
