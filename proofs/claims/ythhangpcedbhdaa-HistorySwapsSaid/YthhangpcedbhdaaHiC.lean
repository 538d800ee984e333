/- A history's spans: what is so of them. -/
import Derived.Test.YthhangpcedbhdaaHiB
set_option linter.unusedVariables false
set_option linter.unusedSimpArgs false
namespace Go.Eng
open Go Go.Proofs

/-- What is so of spans, behind so many events. -/
structure SpQ (k : Nat) (out : List Sp) (op mn f : Int → Int) : Prop where
  fr : ∀ i, i < out.length → 0 ≤ (out.getD i default).fr ∧ (out.getD i default).fr < k
  inc : ∀ i j, i < j → j < out.length → (out.getD i default).fr < (out.getD j default).fr
  to : ∀ i, i < out.length → (out.getD i default).to = -1 ∨ (out.getD i default).fr < (out.getD i default).to ∧ (out.getD i default).to < k
  num : ∀ i, i < out.length → (out.getD i default).n < mn (out.getD i default).th
  opn : ∀ i, i < out.length → (out.getD i default).to = -1 → f (out.getD i default).th = 1 ∧ op (out.getD i default).th = i
  ix : ∀ a, f a = 1 → 0 ≤ op a ∧ op a < out.length ∧ (out.getD (op a).toNat default).th = a ∧ (out.getD (op a).toNat default).to = -1
  ord : ∀ i j, i < j → j < out.length → (out.getD i default).th = (out.getD j default).th → 0 ≤ (out.getD i default).to ∧ (out.getD i default).to < (out.getD j default).fr ∧ (out.getD i default).n < (out.getD j default).n
theorem getD_app {α : Type} {L : List α} {x d : α} {i : Nat} (h : i < L.length) : (L ++ [x]).getD i d = L.getD i d := by
  rw [List.getD_eq_getElem?_getD, List.getElem?_append_left h, ← List.getD_eq_getElem?_getD]
theorem getD_last {α : Type} {L : List α} {x d : α} : (L ++ [x]).getD L.length d = x := by
  rw [List.getD_eq_getElem?_getD, List.getElem?_append_right (Nat.le_refl _)]; simp
theorem SpQ.begins {k : Nat} {out : List Sp} {op mn f : Int → Int} (h : SpQ k out op mn f) {x : Ev} (hf : f x.2.1 = 0) {s : Sp} (hs : s.th = x.2.1 ∧ s.n = mn x.2.1 ∧ s.fr = k ∧ s.to = -1) :
    SpQ (k + 1) (out ++ [s]) (fun a => if a = x.2.1 then (out.length : Int) else op a) (fun a => if a = x.2.1 then mn a + 1 else mn a) (fun a => if a = x.2.1 then 1 else f a) := by
  obtain ⟨s1, s2, s3, s4⟩ := hs
  have hlen : (out ++ [s]).length = out.length + 1 := by rw [List.length_append]; rfl
  have cases : ∀ i, i < (out ++ [s]).length → (i < out.length ∧ (out ++ [s]).getD i default = out.getD i default) ∨ (i = out.length ∧ (out ++ [s]).getD i default = s) := by
    intro i hi
    rcases Nat.lt_or_ge i out.length with h' | h'
    · exact .inl ⟨h', getD_app h'⟩
    · have : i = out.length := by omega
      subst this
      exact .inr ⟨rfl, getD_last⟩
  refine ⟨fun i hi => ?_, fun i j hij hj => ?_, fun i hi => ?_, fun i hi => ?_, fun i hi ho => ?_, fun a ha => ?_, fun i j hij hj hth => ?_⟩
  · rcases cases i hi with ⟨h1, e⟩ | ⟨h1, e⟩
    · rw [e]; have := h.fr i h1; omega
    · rw [e, s3]; omega
  · rcases cases j hj with ⟨h1, e⟩ | ⟨h1, e⟩
    · rw [e, getD_app (by omega)]; exact h.inc i j hij h1
    · rw [e, s3, getD_app (by omega)]; exact (h.fr i (by omega)).2
  · rcases cases i hi with ⟨h1, e⟩ | ⟨h1, e⟩
    · rw [e]; rcases h.to i h1 with h2 | h2
      · exact .inl h2
      · exact .inr (by omega)
    · rw [e]; exact .inl s4
  · rcases cases i hi with ⟨h1, e⟩ | ⟨h1, e⟩
    · rw [e]; have := h.num i h1
      show (out.getD i default).n < if (out.getD i default).th = x.2.1 then mn (out.getD i default).th + 1 else mn (out.getD i default).th
      by_cases e2 : (out.getD i default).th = x.2.1
      · rw [if_pos e2]; omega
      · rw [if_neg e2]; exact this
    · rw [e, s2, s1]
      show _ < if x.2.1 = x.2.1 then _ else _
      rw [if_pos rfl]; omega
  · rcases cases i hi with ⟨h1, e⟩ | ⟨h1, e⟩
    · rw [e] at ho ⊢
      obtain ⟨h2, h3⟩ := h.opn i h1 ho
      have hne : ¬ (out.getD i default).th = x.2.1 := fun e => by rw [e] at h2; omega
      show (if _ then _ else _) = _ ∧ (if _ then _ else _) = _
      rw [if_neg hne, if_neg hne]
      exact ⟨h2, h3⟩
    · rw [e, s1]
      show (if _ then _ else _) = _ ∧ (if _ then _ else _) = _
      rw [if_pos rfl, if_pos rfl]
      exact ⟨rfl, by rw [h1]⟩
  · have ha : (if a = x.2.1 then 1 else f a) = 1 := ha
    show 0 ≤ (if a = x.2.1 then _ else _) ∧ (if a = x.2.1 then _ else _) < _ ∧ ((out ++ [s]).getD (if a = x.2.1 then (out.length : Int) else op a).toNat default).th = a ∧ ((out ++ [s]).getD (if a = x.2.1 then (out.length : Int) else op a).toNat default).to = -1
    by_cases e : a = x.2.1
    · rw [if_pos e, Int.toNat_natCast, getD_last]
      exact ⟨by omega, by omega, by rw [s1, e], s4⟩
    · rw [if_neg e] at ha ⊢
      obtain ⟨h1, h2, h3, h4⟩ := h.ix a ha
      rw [getD_app (by omega)]
      exact ⟨h1, by omega, h3, h4⟩
  · rcases cases j hj with ⟨h1, e⟩ | ⟨h1, e⟩
    · rw [e] at hth ⊢
      rw [getD_app (by omega)] at hth ⊢
      exact h.ord i j hij h1 hth
    · rw [e] at hth ⊢
      rw [getD_app (by omega)] at hth ⊢
      rw [s1] at hth
      have hi : i < out.length := by omega
      have hn := h.num i hi
      rcases h.to i hi with h2 | h2
      · have := (h.opn i hi h2).1
        rw [hth] at this; omega
      · have := h.fr i hi
        rw [s3, s2]
        rw [hth] at hn
        omega
theorem getD_setS {L : List Sp} {i j : Nat} {x : Sp} (hj : j < L.length) : (L.set i x).getD j default = if i = j then x else L.getD j default := by
  simp only [List.getD_eq_getElem?_getD, List.getElem?_set]
  by_cases h : i = j
  · subst h; simp [hj]
  · simp [h]
theorem SpQ.ends {k : Nat} {out : List Sp} {op mn f : Int → Int} (h : SpQ k out op mn f) {x : Ev} (hf : f x.2.1 = 1) {w v : Int} :
    SpQ (k + 1) (out.set (op x.2.1).toNat { out.getD (op x.2.1).toNat default with why := w, rv := v, to := k }) op mn (fun a => if a = x.2.1 then 0 else f a) := by
  obtain ⟨i1, i2, i3, i4⟩ := h.ix _ hf
  have hp : (op x.2.1).toNat < out.length := by omega
  have e0 : (((op x.2.1).toNat : Nat) : Int) = op x.2.1 := by omega
  generalize hpp : (op x.2.1).toNat = p at *
  have hfr := h.fr p hp
  -- a span keeps all but its end
  have keep : ∀ i, i < out.length → ((out.set p { out.getD p default with why := w, rv := v, to := k }).getD i default).th = (out.getD i default).th ∧ ((out.set p { out.getD p default with why := w, rv := v, to := k }).getD i default).n = (out.getD i default).n ∧
      ((out.set p { out.getD p default with why := w, rv := v, to := k }).getD i default).fr = (out.getD i default).fr ∧ ((out.set p { out.getD p default with why := w, rv := v, to := k }).getD i default).to = if p = i then (k : Int) else (out.getD i default).to := by
    intro i hi
    rw [getD_setS hi]
    by_cases e : p = i
    · subst e; rw [if_pos rfl, if_pos rfl]; exact ⟨rfl, rfl, rfl, rfl⟩
    · rw [if_neg e, if_neg e]; exact ⟨rfl, rfl, rfl, rfl⟩
  generalize hN : out.set p { out.getD p default with why := w, rv := v, to := k } = N at *
  have hl : N.length = out.length := by rw [← hN, List.length_set]
  refine ⟨fun i hi => ?_, fun i j hij hj => ?_, fun i hi => ?_, fun i hi => ?_, fun i hi ho => ?_, fun a ha => ?_, fun i j hij hj hth => ?_⟩
  · rw [hl] at hi; obtain ⟨k1, k2, k3, k4⟩ := keep i hi
    rw [k3]; have := h.fr i hi; omega
  · rw [hl] at hj
    rw [(keep i (by omega)).2.2.1, (keep j hj).2.2.1]
    exact h.inc i j hij hj
  · rw [hl] at hi; obtain ⟨k1, k2, k3, k4⟩ := keep i hi
    rw [k3, k4]
    by_cases e : p = i
    · subst e; rw [if_pos rfl]; exact .inr (by omega)
    · rw [if_neg e]; rcases h.to i hi with h2 | h2
      · exact .inl h2
      · exact .inr (by omega)
  · rw [hl] at hi; obtain ⟨k1, k2, k3, k4⟩ := keep i hi
    rw [k1, k2]; exact h.num i hi
  · rw [hl] at hi; obtain ⟨k1, k2, k3, k4⟩ := keep i hi
    rw [k4] at ho
    rw [k1]
    by_cases e : p = i
    · subst e; rw [if_pos rfl] at ho; omega
    · rw [if_neg e] at ho
      obtain ⟨h2, h3⟩ := h.opn i hi ho
      have hne : ¬ (out.getD i default).th = x.2.1 := fun e2 => by
        rw [e2] at h3
        omega
      show (if _ then _ else _) = _ ∧ _
      rw [if_neg hne]
      exact ⟨h2, h3⟩
  · have ha : (if a = x.2.1 then 0 else f a) = 1 := ha
    by_cases e : a = x.2.1
    · rw [if_pos e] at ha; omega
    · rw [if_neg e] at ha
      obtain ⟨h1, h2, h3, h4⟩ := h.ix a ha
      obtain ⟨k1, k2, k3, k4⟩ := keep (op a).toNat (by omega)
      refine ⟨h1, by omega, by rw [k1]; exact h3, ?_⟩
      rw [k4, if_neg]
      · exact h4
      · rintro rfl
        rw [i3] at h3; exact e h3.symm
  · rw [hl] at hj
    obtain ⟨k1, k2, k3, k4⟩ := keep i (by omega)
    obtain ⟨m1, m2, m3, m4⟩ := keep j hj
    rw [k1, m1] at hth
    obtain ⟨o1, o2, o3⟩ := h.ord i j hij hj hth
    rw [k2, m2, m3, k4]
    by_cases e : p = i
    · subst e; omega
    · rw [if_neg e]; exact ⟨o1, o2, o3⟩
theorem SpQ.skip {k : Nat} {out : List Sp} {op mn f : Int → Int} (h : SpQ k out op mn f) : SpQ (k + 1) out op mn f :=
  ⟨fun i hi => by have := h.fr i hi; omega, h.inc, fun i hi => (h.to i hi).imp id fun h2 => by omega, h.num, h.opn, h.ix, h.ord⟩
theorem SpQ.all : ∀ (r : List Ev) (k : Nat) (out : List Sp) (op mn f : Int → Int), SpQ k out op mn f → (∀ a, f a = 0 ∨ f a = 1) → hR r f = true → ∃ op' mn' f', SpQ (k + r.length) (hS r k (out, op, mn)) op' mn' f'
  | [], k, out, op, mn, f, h, _, _ => ⟨op, mn, f, h⟩
  | x :: r, k, out, op, mn, f, h, hf, hr => by
    rw [hR] at hr
    rw [hS, List.length_cons, show k + (r.length + 1) = (k + 1) + r.length by omega]
    by_cases hs : ¬ x.1 = 0 ∧ ¬ x.1 = 1
    · rw [if_pos hs] at hr
      rw [spS, if_neg hs.1, if_neg hs.2]
      exact SpQ.all r (k + 1) out op mn f h.skip hf hr
    · rw [if_neg hs] at hr
      by_cases he : f x.2.1 = x.1
      · rw [if_pos he] at hr
        by_cases h0 : x.1 = 0
        · rw [spS, if_pos h0]
          rw [h0] at hr he
          exact SpQ.all r (k + 1) _ _ _ _ (h.begins he ⟨rfl, rfl, rfl, rfl⟩) (fun a => by show (if a = x.2.1 then (1 : Int) else f a) = 0 ∨ (if a = x.2.1 then (1 : Int) else f a) = 1; split; exact .inr rfl; exact hf a) hr
        · have h1 : x.1 = 1 := by omega
          rw [spS, if_neg h0, if_pos h1]
          rw [h1] at hr he
          exact SpQ.all r (k + 1) _ _ _ _ (h.ends he) (fun a => by show (if a = x.2.1 then (0 : Int) else f a) = 0 ∨ (if a = x.2.1 then (0 : Int) else f a) = 1; split; exact .inl rfl; exact hf a) hr
      · rw [if_neg he] at hr; cases hr
theorem spans_q {l : List Ev} (h : hRight l = true) : ∃ op mn f, SpQ l.length (spansF l) op mn f := by
  have := SpQ.all l 0 [] (fun _ => 0) (fun _ => 0) (fun _ => 0) ⟨fun i hi => absurd hi (Nat.not_lt_zero _), fun i j _ hj => absurd hj (Nat.not_lt_zero _), fun i hi => absurd hi (Nat.not_lt_zero _), fun i hi => absurd hi (Nat.not_lt_zero _), fun i hi => absurd hi (Nat.not_lt_zero _), fun a ha => absurd ha (by decide), fun i j _ hj => absurd hj (Nat.not_lt_zero _)⟩ (fun _ => .inl rfl) h
  rw [Nat.zero_add] at this
  exact this
end Go.Eng
