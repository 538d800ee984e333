/- Memory: the plain laws. -/
import Derived.Test.YtpcimaemigchiaaMemC
set_option linter.unusedVariables false
set_option linter.unusedSimpArgs false
namespace Go.Eng
open Go Go.Proofs

theorem memR_set {ws ts : List Int} {a v : Int} (h : useF ws ts a = 0) : memR (ws.set a.toNat v) ts = true := by
  obtain ⟨h1, h2, h3, h4⟩ := useF_ok.1 h
  obtain ⟨g1, g2, g3, g4⟩ := memR_iff.1 h1
  refine memR_iff.2 ⟨by simpa using g1, by simpa using g2, by simpa using g3, fun i hi => ?_⟩
  by_cases e : a.toNat = i
  · subst e; rw [h4]; simp [okT]
  · rw [getD_set_ne e]; exact g4 i hi
theorem useF_set {ws ts : List Int} {a v k : Int} (h : useF ws ts a = 0) : useF (ws.set a.toNat v) ts k = useF ws ts k := by
  have h1 := (useF_ok.1 h).1
  unfold useF
  rw [if_pos (memR_set h), if_pos h1]
  simp
theorem holds1 {ws ts : List Int} {a v : Int} (h : useF ws ts a = 0) : loadF (ws.set a.toNat v) ts a = (v, 0) := by
  obtain ⟨h1, h2, h3, h4⟩ := useF_ok.1 h
  unfold loadF
  rw [useF_set h, if_pos h, getD_set_eq (by omega)]
theorem holds2 {ws ts : List Int} {a v k : Int} (h : useF ws ts a = 0) (hk : k ≠ a) : loadF (ws.set a.toNat v) ts k = loadF ws ts k := by
  unfold loadF
  rw [useF_set h]
  split
  · rename_i h5
    obtain ⟨h1, h2, h3, h4⟩ := useF_ok.1 h
    obtain ⟨k1, k2, k3, k4⟩ := useF_ok.1 h5
    rw [getD_set_ne (by omega)]
  · rfl
theorem storeF_go {ws ts : List Int} {a v : Int} (h : useF ws ts a = 0) : storeF ws ts a v = ((ws.set a.toNat v, ts), 0) := by rw [storeF, if_pos h]
theorem storeF_no {ws ts : List Int} {a v : Int} (h : useF ws ts a ≠ 0) : storeF ws ts a v = (([], []), useF ws ts a) := by rw [storeF, if_neg h]

def setR (tag : Int) : List Int → Nat → Nat → List Int
  | ts, _, 0 => ts
  | ts, p, n + 1 => setR tag (ts.set p tag) (p + 1) n
theorem setR_len {tag : Int} : ∀ (n : Nat) (ts : List Int) (p : Nat), (setR tag ts p n).length = ts.length
  | 0, _, _ => rfl
  | n + 1, ts, p => by rw [setR, setR_len n]; simp
theorem setR_at {tag : Int} : ∀ (n : Nat) (ts : List Int) (p i : Nat), p + n ≤ ts.length → (setR tag ts p n).getD i default = if p ≤ i ∧ i < p + n then tag else ts.getD i default
  | 0, ts, p, i, h => by rw [if_neg (by omega)]; rfl
  | n + 1, ts, p, i, h => by
    rw [setR, setR_at n _ _ _ (by simp; omega)]
    by_cases e : p = i
    · subst e
      rw [if_neg (by omega), if_pos (by omega), getD_set_eq (by omega)]
    · rw [getD_set_ne e]
      by_cases e2 : p + 1 ≤ i ∧ i < p + 1 + n
      · rw [if_pos e2, if_pos (by omega)]
      · rw [if_neg e2, if_neg (by omega)]
theorem markN_go {tag : Int} : ∀ (n : Nat) (ts : List Int) (p : Nat), p + n ≤ ts.length → (∀ i, i < n → markE tag (ts.getD (p + i) default) = 0) → markN tag ts p n = (setR tag ts p n, 0)
  | 0, _, _, _, _ => rfl
  | n + 1, ts, p, h, he => by
    rw [markN, if_pos (by have := he 0 (by omega); simpa using this), setR]
    refine markN_go n _ _ (by simp; omega) fun i hi => ?_
    rw [getD_set_ne (by omega), show p + 1 + i = p + (i + 1) by omega]
    exact he (i + 1) (by omega)
theorem markN_inv {tag : Int} : ∀ (n : Nat) (ts : List Int) (p : Nat), p + n ≤ ts.length → (markN tag ts p n).2 = 0 → ∀ i, i < n → markE tag (ts.getD (p + i) default) = 0
  | 0, _, _, _, _ => fun i hi => by omega
  | n + 1, ts, p, h, he => fun i hi => by
    rw [markN] at he
    split at he
    · rename_i h0
      cases i with
      | zero => exact h0
      | succ i =>
        have := markN_inv n _ _ (by simp; omega) he i (by omega)
        rw [getD_set_ne (by omega), show p + 1 + i = p + (i + 1) by omega] at this
        exact this
    · rename_i h0; exact (h0 he).elim
structure MarkOk (ws ts : List Int) (a n tag : Int) : Prop where
  hm : memR ws ts = true
  htag : tag = 1 ∨ tag = 2
  hn : 1 ≤ n
  ha : 0 ≤ a
  hb : a + n ≤ ws.length
  hl : ts.length = ws.length
  he : ∀ i : Nat, i < n.toNat → markE tag (ts.getD (a.toNat + i) default) = 0
theorem markF_ok {ws ts : List Int} {a n tag : Int} (h : MarkOk ws ts a n tag) : markF ws ts a n tag = ((ws, setR tag ts a.toNat n.toNat), 0) := by
  obtain ⟨h1, h2, h3, h4, h5, h6, h7⟩ := h
  rw [markF_go h1 h2 (by omega), markN_go _ _ _ (by omega) h7]; rfl
theorem markF_inv {ws ts : List Int} {a n tag : Int} (h : (markF ws ts a n tag).2 = 0) : MarkOk ws ts a n tag := by
  by_cases h1 : memR ws ts = true ∧ (tag = 1 ∨ tag = 2)
  · by_cases h2 : n < 1 ∨ a < 0 ∨ ws.length ≤ a ∨ ws.length - a < n
    · rw [markF_range h1.1 h1.2 h2] at h; cases h
    · rw [markF_go h1.1 h1.2 h2] at h
      have hl := (memR_iff.1 h1.1).2.2.1
      split at h
      · rename_i h3
        exact ⟨h1.1, h1.2, by omega, by omega, by omega, hl, markN_inv _ _ _ (by omega) h3⟩
      · rename_i h3; exact (h3 h).elim
  · rw [markF_arg h1] at h; cases h
theorem memR_setR {ws ts : List Int} {tag : Int} {p n : Nat} (h : memR ws ts = true) (ht : tag = 1 ∨ tag = 2) (hp : p + n ≤ ts.length) : memR ws (setR tag ts p n) = true := by
  obtain ⟨g1, g2, g3, g4⟩ := memR_iff.1 h
  refine memR_iff.2 ⟨g1, g2, by rw [setR_len]; exact g3, fun i hi => ?_⟩
  rw [setR_len] at hi
  rw [setR_at _ _ _ _ hp]
  split
  · rcases ht with rfl | rfl <;> simp [okT]
  · exact g4 i hi
theorem MarkOk.again {ws ts : List Int} {a n tag tag' : Int} (h : MarkOk ws ts a n tag) (ht : tag' = 1 ∨ tag' = 2) (he : markE tag' tag = 0) : MarkOk ws (setR tag ts a.toNat n.toNat) a n tag' where
  hm := memR_setR h.hm h.htag (by have := h.hl; have := h.hb; have := h.ha; have := h.hn; omega)
  htag := ht
  hn := h.hn
  ha := h.ha
  hb := h.hb
  hl := by rw [setR_len]; exact h.hl
  he := fun i hi => by
    rw [setR_at _ _ _ _ (by have := h.hl; have := h.hb; have := h.ha; have := h.hn; omega), if_pos (by omega)]
    exact he
theorem MarkOk.bad {ws ts : List Int} {a n tag tag' e : Int} (h : MarkOk ws ts a n tag) (ht : tag' = 1 ∨ tag' = 2) (he : markE tag' tag = e) (h0 : e ≠ 0) : markF ws (setR tag ts a.toNat n.toNat) a n tag' = (([], []), e) := by
  have h1 := h.hn; have h2 := h.ha; have h3 := h.hb; have h4 := h.hl
  have hat : (setR tag ts a.toNat n.toNat).getD a.toNat default = tag := by rw [setR_at _ _ _ _ (by omega), if_pos (by omega)]
  rw [markF_go (memR_setR h.hm h.htag (by omega)) ht (by omega)]
  have : markN tag' (setR tag ts a.toNat n.toNat) a.toNat n.toNat = ([], e) := by
    rw [markN_stop (by omega) (by rw [hat, he]; exact h0), hat, he]
  rw [this]
  simp [h0]
theorem MarkOk.use {ws ts : List Int} {a n tag k : Int} (h : MarkOk ws ts a n tag) (hk : a ≤ k ∧ k < a + n) : useF ws (setR tag ts a.toNat n.toNat) k = whyF tag := by
  have h1 := h.hn; have h2 := h.ha; have h3 := h.hb; have h4 := h.hl
  unfold useF
  rw [if_pos (memR_setR h.hm h.htag (by omega)), if_neg (by omega), setR_at _ _ _ _ (by omega), if_pos (by omega)]
theorem count_set' {l : List Int} {i : Nat} {x t : Int} (h : i < l.length) : ((l.set i x).count t : Int) = l.count t - (if l.getD i default = t then 1 else 0) + if x = t then 1 else 0 := by
  have hc : (if l.getD i default = t then 1 else 0) ≤ l.count t := by
    split
    · rename_i e
      rw [Nat.one_le_iff_ne_zero, ← Nat.pos_iff_ne_zero, List.count_pos_iff]
      rw [← e, List.getD_eq_getElem?_getD, List.getElem?_eq_getElem h]
      exact List.getElem_mem _
    · exact Nat.zero_le _
  rw [List.count_set (by exact h)]
  have e1 : l[i] = l.getD i default := by rw [List.getD_eq_getElem?_getD, List.getElem?_eq_getElem h]; rfl
  simp only [beq_iff_eq, e1]
  by_cases e1 : l.getD i default = t <;> by_cases e2 : x = t <;> simp only [e1, e2, if_true, if_false] at hc ⊢ <;> omega
theorem count_setR {tag old t : Int} : ∀ (n : Nat) (ts : List Int) (p : Nat), p + n ≤ ts.length → (∀ i, i < n → ts.getD (p + i) default = old) →
    ((setR tag ts p n).count t : Int) = ts.count t - (if old = t then (n : Int) else 0) + if tag = t then (n : Int) else 0
  | 0, ts, p, _, _ => by simp [setR]
  | n + 1, ts, p, h, ho => by
    rw [setR, count_setR (old := old) n _ _ (by simp; omega) (fun i hi => by rw [getD_set_ne (by omega), show p + 1 + i = p + (i + 1) by omega]; exact ho _ (by omega)), count_set' (by omega)]
    have := ho 0 (by omega)
    rw [Nat.add_zero] at this
    rw [this]
    by_cases e1 : old = t <;> by_cases e2 : tag = t <;> simp only [e1, e2, if_true, if_false] <;> omega
end Go.Eng
