/- The machine: the plain laws. -/
import Derived.Test.YtpcimaemigchiaaTsoP
set_option linter.unusedVariables false
set_option linter.unusedSimpArgs false
namespace Go.Eng
open Go Go.Proofs

theorem newestN_app (b r : List Put) (a : Int) : ∀ k, k ≤ b.length → newestN (b ++ r) a k = newestN b a k
  | 0, _ => rfl
  | k + 1, h => by
    rw [newestN, newestN, newestN_app b r a k (by omega)]
    have : (b ++ r).getD k default = b.getD k default := by
      simp only [List.getD_eq_getElem?_getD]
      rw [List.getElem?_append_left (by omega)]
    rw [this]
theorem newest_snoc (b : List Put) (p : Put) (a : Int) : newestF (b ++ [p]) a = if p.1 = a then (p.2, true) else newestF b a := by
  have e : (b ++ [p]).getD b.length default = p := by simp [List.getD_eq_getElem?_getD]
  rw [newestF, List.length_append, List.length_cons, List.length_nil, newestN, e, newestN_app b [p] a b.length (Nat.le_refl _)]
  rfl
theorem newest_nil {b : List Put} (h : b.length = 0) (a : Int) : newestF b a = (0, false) := by
  have : b = [] := List.eq_nil_of_length_eq_zero h
  subst this; rfl
theorem getD_setB {l : List (List Put)} {i j : Nat} {b : List Put} (hi : i < l.length) : (l.set i b).getD j default = if i = j then b else l.getD j default := by
  simp only [List.getD_eq_getElem?_getD]
  by_cases e : i = j
  · subst e; rw [List.getElem?_set_self hi, if_pos rfl]; rfl
  · rw [List.getElem?_set_ne e, if_neg e]

/-- What a store changes of which machines may be: nothing. -/
theorem tsoR_ws {ws ws' ts : List Int} {d : Int} {l : List (List Put)} (h : tsoR ws ts d l = true) (hm : memR ws' ts = true) (hl : ws'.length = ws.length) : tsoR ws' ts d l = true := by
  obtain ⟨_, h2, h3⟩ := tsoR_iff.1 h
  exact tsoR_iff.2 ⟨hm, h2, fun i hi => by rw [hl]; exact h3 i hi⟩
theorem tsoR_set {ws ts : List Int} {d : Int} {l : List (List Put)} (h : tsoR ws ts d l = true) {i : Nat} {b : List Put} (hi : i < l.length) (hb : okB ws.length d b = true) : tsoR ws ts d (l.set i b) = true := by
  obtain ⟨h1, h2, h3⟩ := tsoR_iff.1 h
  refine tsoR_iff.2 ⟨h1, by rw [List.length_set]; exact h2, fun j hj => ?_⟩
  rw [getD_setB hi]
  split
  · exact hb
  · exact h3 j (by simpa using hj)
theorem okB_snoc {n : Nat} {d : Int} {b : List Put} {p : Put} (h : okB n d b = true) (hl : (b.length : Int) < d) (hp : 0 ≤ p.1 ∧ p.1 < n) : okB n d (b ++ [p]) = true := by
  simp only [okB, Bool.and_eq_true, decide_eq_true_eq, Bool.not_eq_true', List.any_append, Bool.or_eq_false_iff] at h ⊢
  refine ⟨by simp only [List.length_append, List.length_cons, List.length_nil]; omega, h.2, ?_⟩
  simp only [List.any_cons, List.any_nil, Bool.or_false]
  exact badP_f (by omega)

theorem loadT_no {ws ts : List Int} {d : Int} {l : List (List Put)} {i a : Int} (h : ¬ hasF ws ts d l i = true) : loadT (ws, ts, d, l) i a = (0, 1) := by rw [loadT, if_neg h]
theorem loadT_yes {ws ts : List Int} {d : Int} {l : List (List Put)} {i a : Int} (h : hasF ws ts d l i = true) : loadT (ws, ts, d, l) i a =
    if (loadF ws ts a).2 = 0 then (if (newestF (l.getD i.toNat default) a).2 = true then (newestF (l.getD i.toNat default) a).1 else (loadF ws ts a).1, 0) else (0, (loadF ws ts a).2) := by rw [loadT, if_pos h]

/-- A store that is made, either at once or waiting. -/
theorem store_cases {ws ts : List Int} {d : Int} {l : List (List Put)} {i a v : Int} (h : (storeT (ws, ts, d, l) i a v).2 = 0) :
    hasF ws ts d l i = true ∧ useF ws ts a = 0 ∧
    ((d = 0 ∧ (storeT (ws, ts, d, l) i a v).1 = (ws.set a.toNat v, ts, d, l)) ∨
     (d ≠ 0 ∧ ((l.getD i.toNat default).length : Int) < d ∧ (storeT (ws, ts, d, l) i a v).1 = (ws, ts, d, l.set i.toNat (l.getD i.toNat default ++ [(a, v)])))) := by
  by_cases hh : hasF ws ts d l i = true
  · by_cases hu : useF ws ts a = 0
    · have hs := storeF_go hu (v := v)
      have h3 := hasF_len hh
      have h4 := hasF_sz hh
      have hp := push_here (p := (a, v)) h3 ⟨h4.1, h4.2.1⟩
      refine ⟨hh, hu, ?_⟩
      by_cases hd : d = 0
      · refine .inl ⟨hd, ?_⟩
        simp only [storeT, hh, hs, hd, ↓reduceIte]
        subst hd
        simp only [hh, ↓reduceIte]
      · by_cases hl : ((l.getD i.toNat default).length : Int) = d
        · rw [if_pos hl] at hp
          simp only [storeT, hh, hs, hd, hp, ↓reduceIte] at h
          simp at h
        · rw [if_neg hl] at hp
          refine .inr ⟨hd, by omega, ?_⟩
          simp only [storeT, hh, hs, hd, hp, ↓reduceIte]
    · have hs := storeF_no hu (v := v)
      (simp only [storeT, hh, hs, hu, ↓reduceIte] at h) <;> exact absurd h hu
  · rw [storeT, if_neg hh] at h
    exact absurd h (by decide)

theorem ownL {ws ts : List Int} {d : Int} {l : List (List Put)} {i a v : Int} (h : (storeT (ws, ts, d, l) i a v).2 = 0) (o k : Int) :
    (hasF ws ts d l o = false → loadT (ws, ts, d, l) o k = (0, 1) ∧ loadT (storeT (ws, ts, d, l) i a v).1 o k = (0, 1)) ∧
    (hasF ws ts d l o = true → k = a → o = i ∨ d = 0 → loadT (storeT (ws, ts, d, l) i a v).1 o k = (v, 0)) ∧
    (¬ (k = a ∧ (o = i ∨ d = 0)) → loadT (storeT (ws, ts, d, l) i a v).1 o k = loadT (ws, ts, d, l) o k) := by
  obtain ⟨hh, hu, hc⟩ := store_cases h
  obtain ⟨hr, hi1, hi2⟩ := hasF_iff.1 hh
  obtain ⟨u1, u2, u3, u4⟩ := useF_ok.1 hu
  rcases hc with ⟨hd, e⟩ | ⟨hd, hlt, e⟩
  · rw [e]
    have hR : hasF (ws.set a.toNat v) ts d l o = hasF ws ts d l o := by
      have h1 : tsoR (ws.set a.toNat v) ts d l = true := tsoR_ws hr (memR_set hu) (by simp)
      simp only [hasF, h1, hr]
    refine ⟨fun h0 => ⟨loadT_no (by simp [h0]), loadT_no (by rw [hR]; simp [h0])⟩, fun h0 hk _ => ?_, fun hn => ?_⟩
    · have hb := hasF_len h0
      rw [loadT_yes (by rw [hR]; exact h0), newest_nil (by omega), hk, holds1 hu]
      rfl
    · by_cases h0 : hasF ws ts d l o = true
      · rw [loadT_yes h0, loadT_yes (by rw [hR]; exact h0), holds2 hu (fun hk => hn ⟨hk, .inr hd⟩)]
      · rw [loadT_no h0, loadT_no (by rw [hR]; exact h0)]
  · rw [e]
    have hi3 : i.toNat < l.length := by omega
    have hok := (tsoR_iff.1 hr).2.2 i.toNat hi3
    have h1 : tsoR ws ts d (l.set i.toNat (l.getD i.toNat default ++ [(a, v)])) = true := tsoR_set hr hi3 (okB_snoc hok hlt ⟨u2, u3⟩)
    have hR : hasF ws ts d (l.set i.toNat (l.getD i.toNat default ++ [(a, v)])) o = hasF ws ts d l o := by
      simp only [hasF, h1, hr, List.length_set]
    refine ⟨fun h0 => ⟨loadT_no (by simp [h0]), loadT_no (by rw [hR]; simp [h0])⟩, fun h0 hk ho => ?_, fun hn => ?_⟩
    · have ho : o = i := by rcases ho with ho | ho; exact ho; exact absurd ho hd
      subst ho; subst hk
      have hl0 : (loadF ws ts k).2 = 0 := by rw [loadF_use]; exact hu
      rw [loadT_yes (by rw [hR]; exact h0), getD_setB hi3, if_pos rfl, newest_snoc, if_pos rfl, if_pos hl0]
      rfl
    · by_cases h0 : hasF ws ts d l o = true
      · rw [loadT_yes h0, loadT_yes (by rw [hR]; exact h0), getD_setB hi3]
        by_cases ho : i.toNat = o.toNat
        · have h2 := (hasF_iff.1 h0).2
          have ho : o = i := by omega
          subst ho
          have e2 : newestF (l.getD o.toNat default ++ [(a, v)]) k = newestF (l.getD o.toNat default) k := by
            rw [newest_snoc, if_neg (fun hk => hn ⟨Eq.symm hk, .inl rfl⟩)]
          rw [if_pos rfl, e2]
        · rw [if_neg ho]
      · rw [loadT_no h0, loadT_no (by rw [hR]; exact h0)]
end Go.Eng
