/- Grace: what is so of stretches. -/
import Derived.Test.YthhangpcedbhdaaGrG
set_option linter.unusedVariables false
set_option linter.unusedSimpArgs false
namespace Go.Eng
open Go Go.Proofs

/-- How deep a thread is behind one event more. -/
def stp (i o most : Int) (x : Ev) (a d : Int) : Int := if x.1 = i then (if a = x.2.1 then minW d most else d) else if x.1 = o then (if a = x.2.1 ∧ ¬ d = 0 then d - 1 else d) else d
/-- How deep a thread is behind so many events. -/
def dp (i o most : Int) (l : List Ev) (a : Int) : Nat → Int
  | 0 => 0
  | k + 1 => stp i o most (l.getD k default) a (dp i o most l a k)
theorem dp_pos {i o most : Int} (hm : 0 ≤ most) (l : List Ev) (a : Int) : ∀ k, 0 ≤ dp i o most l a k
  | 0 => Int.le_refl _
  | k + 1 => by
    have h := dp_pos (i := i) (o := o) hm l a k
    show 0 ≤ stp i o most _ a _
    generalize dp i o most l a k = d at h
    unfold stp minW
    split
    · split
      · split <;> omega
      · exact h
    split
    · split <;> omega
    · exact h
theorem dp_le {i o most : Int} (l : List Ev) (a : Int) : ∀ k : Nat, dp i o most l a k ≤ k
  | 0 => Int.le_refl _
  | k + 1 => by
    have h := dp_le (i := i) (o := o) (most := most) l a k
    show stp i o most _ a _ ≤ _
    generalize dp i o most l a k = d at h
    unfold stp minW
    split
    · split
      · split <;> omega
      · omega
    split
    · split <;> omega
    · omega
theorem stp_most {i o m m' : Int} {x : Ev} {a d : Int} (h : d < m) (h' : d < m') : stp i o m x a d = stp i o m' x a d := by
  unfold stp
  rw [show minW d m = minW d m' by unfold minW; rw [if_neg (by omega), if_neg (by omega)]]
theorem dp_most {i o m m' : Int} (l : List Ev) (a : Int) : ∀ k : Nat, (k : Int) ≤ m → (k : Int) ≤ m' → dp i o m l a k = dp i o m' l a k
  | 0, _, _ => rfl
  | k + 1, h, h' => by
    have e := dp_most (i := i) (o := o) (m := m) (m' := m') l a k (by omega) (by omega)
    have h1 := dp_le (i := i) (o := o) (most := m) l a k
    have h2 := dp_le (i := i) (o := o) (most := m') l a k
    show stp i o m _ a (dp i o m l a k) = stp i o m' _ a (dp i o m' l a k)
    rw [← e] at h2 ⊢
    have h3 : dp i o m l a k < m := by omega
    have h4 : dp i o m l a k < m' := by omega
    exact stp_most h3 h4
theorem stp_in {i o most : Int} {x : Ev} {a d : Int} (h : x.1 = i) : stp i o most x a d = if a = x.2.1 then minW d most else d := by unfold stp; rw [if_pos h]
theorem stp_out {i o most : Int} {x : Ev} {a d : Int} (h : ¬ x.1 = i) (h' : x.1 = o) : stp i o most x a d = if a = x.2.1 ∧ ¬ d = 0 then d - 1 else d := by unfold stp; rw [if_neg h, if_pos h']
theorem stp_skip {i o most : Int} {x : Ev} {a d : Int} (h : ¬ x.1 = i) (h' : ¬ x.1 = o) : stp i o most x a d = d := by unfold stp; rw [if_neg h, if_neg h']
theorem minW_pos {d most : Int} (hm : 1 ≤ most) (hd : 0 ≤ d) : 1 ≤ minW d most := by unfold minW; split <;> omega
theorem gD_l {α : Type} [Inhabited α] {l r : List α} {n : Nat} (h : n < l.length) : (l ++ r).getD n default = l.getD n default := by
  rw [List.getD_eq_getElem?_getD, List.getElem?_append_left h, ← List.getD_eq_getElem?_getD]
theorem gD_r {α : Type} [Inhabited α] {l r : List α} {x : α} : (l ++ x :: r).getD l.length default = x := by
  rw [List.getD_eq_getElem?_getD, List.getElem?_append_right (Nat.le_refl _), Nat.sub_self]; rfl
theorem gD_set {l : List Sc} {n m : Nat} {x : Sc} : (l.set n x).getD m default = if n = m ∧ m < l.length then x else l.getD m default := by
  rw [List.getD_eq_getElem?_getD, List.getElem?_set, List.getD_eq_getElem?_getD]
  by_cases e : n = m
  · subst e
    rw [if_pos rfl]
    by_cases h : n < l.length
    · rw [if_pos h, if_pos ⟨rfl, h⟩]; rfl
    · rw [if_neg h, if_neg (fun q => h q.2), List.getElem?_eq_none (by omega)]
  · rw [if_neg e, if_neg (fun q => e q.1)]
theorem gD_mem {l : List Sc} {n : Nat} (h : n < l.length) : l.getD n default ∈ l := by
  rw [List.getD_eq_getElem?_getD, List.getElem?_eq_getElem h]
  exact List.getElem_mem h
theorem mem_gD {l : List Sc} {x : Sc} (h : x ∈ l) : ∃ n, n < l.length ∧ l.getD n default = x := by
  obtain ⟨n, hn, e⟩ := List.mem_iff_getElem.1 h
  exact ⟨n, hn, by rw [List.getD_eq_getElem?_getD, List.getElem?_eq_getElem hn]; exact e⟩

/-- What is so of a stretch behind so many events. -/
structure StA (l : List Ev) (i o most : Int) (k : Nat) (s : Sc) : Prop where
  f0 : 0 ≤ s.fr
  fk : s.fr < k
  fi : (l.getD s.fr.toNat default).1 = i
  ft : (l.getD s.fr.toNat default).2.1 = s.th
  d0 : dp i o most l s.th s.fr.toNat = 0
  t : s.to = -1 ∨ (s.fr < s.to ∧ s.to < k ∧ (l.getD s.to.toNat default).1 = o ∧ (l.getD s.to.toNat default).2.1 = s.th ∧ dp i o most l s.th (s.to.toNat + 1) = 0)
  dn : ∀ j : Nat, s.fr < j → j ≤ k → (0 ≤ s.to → (j : Int) ≤ s.to) → 1 ≤ dp i o most l s.th j
theorem StA.mono {l : List Ev} {i o most : Int} {k : Nat} {s : Sc} (h : StA l i o most k s) (hd : s.to = -1 → 1 ≤ dp i o most l s.th k → 1 ≤ dp i o most l s.th (k + 1)) : StA l i o most (k + 1) s := by
  refine ⟨h.f0, by have := h.fk; omega, h.fi, h.ft, h.d0, ?_, fun j h1 h2 h3 => ?_⟩
  · rcases h.t with e | ⟨a, b, c⟩
    · exact .inl e
    · exact .inr ⟨a, by omega, c⟩
  · by_cases e : j ≤ k
    · exact h.dn j h1 e h3
    · have e : j = k + 1 := by omega
      subst e
      rcases h.t with e | ⟨a, b, c⟩
      · exact hd e (h.dn k h.fk (Nat.le_refl _) (fun q => by omega))
      · have := h3 (by have := h.f0; omega)
        omega
structure StK (l : List Ev) (i o most : Int) (k : Nat) (g : OpG) : Prop where
  a : ∀ n, n < g.1.length → StA l i o most k (g.1.getD n default)
  b : ∀ m n, m < n → n < g.1.length → (g.1.getD m default).fr < (g.1.getD n default).fr
  c : ∀ a, oD g.2.1 a = dp i o most l a k
  w : ∀ a, ¬ dp i o most l a k = 0 → 0 ≤ oD g.2.2 a ∧ oD g.2.2 a < g.1.length ∧ (g.1.getD (oD g.2.2 a).toNat default).th = a ∧ (g.1.getD (oD g.2.2 a).toNat default).to = -1
  d : ∀ f, f < k → (l.getD f default).1 = i → dp i o most l (l.getD f default).2.1 f = 0 → ∃ n, n < g.1.length ∧ (g.1.getD n default).fr = f
theorem StK.start (l : List Ev) (i o most : Int) : StK l i o most 0 op0 := ⟨fun n h => absurd h (Nat.not_lt_zero _), fun _ n _ h => absurd h (Nat.not_lt_zero _), fun _ => rfl, fun _ h => absurd rfl h, fun _ h => absurd h (Nat.not_lt_zero _)⟩
theorem StK.same {l : List Ev} {i o most : Int} {k : Nat} {g g' : OpG} (h : StK l i o most k g) (hm : 0 ≤ most) (e1 : g'.1 = g.1) (e2 : g'.2.2 = g.2.2) (hc : ∀ a, oD g'.2.1 a = dp i o most l a (k + 1)) (h0 : ∀ a, dp i o most l a (k + 1) = 0 ↔ dp i o most l a k = 0)
    (hx : (l.getD k default).1 = i → ¬ dp i o most l (l.getD k default).2.1 k = 0) : StK l i o most (k + 1) g' := by
  refine ⟨?_, ?_, hc, ?_, ?_⟩
  · rw [e1]
    exact fun n hn => (h.a n hn).mono fun _ q => by
      have h1 := h0 (g.1.getD n default).th
      have h2 := dp_pos (i := i) (o := o) hm l (g.1.getD n default).th (k + 1)
      have h3 : ¬ dp i o most l (g.1.getD n default).th (k + 1) = 0 := fun e => by have := h1.1 e; omega
      omega
  · rw [e1]; exact h.b
  · rw [e1, e2]
    exact fun a ha => h.w a fun e => ha ((h0 a).2 e)
  · rw [e1]
    intro f hf hi hd
    by_cases e : f < k
    · exact h.d f e hi hd
    · have : f = k := by omega
      subst this
      exact absurd hd (hx hi)
theorem StK.inn {l : List Ev} {i o most : Int} {k : Nat} {g : OpG} (h : StK l i o most k g) (hm : 1 ≤ most) (hx : (l.getD k default).1 = i) : StK l i o most (k + 1) (inG g (l.getD k default).2.1 k most) := by
  have hdp : ∀ a, dp i o most l a (k + 1) = if a = (l.getD k default).2.1 then minW (dp i o most l a k) most else dp i o most l a k := fun a => stp_in hx
  have hp : ∀ a k, 0 ≤ dp i o most l a k := fun a k => dp_pos (by omega) l a k
  by_cases h0 : oD g.2.1 (l.getD k default).2.1 = 0
  · have e : inG g (l.getD k default).2.1 k most = (g.1 ++ [(⟨(l.getD k default).2.1, k, -1⟩ : Sc)], setM g.2.1 (l.getD k default).2.1 (minW 0 most), setM g.2.2 (l.getD k default).2.1 g.1.length) := by rw [inG, if_pos h0]
    rw [e]
    clear e
    rw [h.c] at h0
    refine ⟨fun n hn => ?_, fun m n hmn hn => ?_, fun a => ?_, fun a ha => ?_, fun f hf hi hd => ?_⟩
    · rw [List.length_append] at hn
      simp only [List.length_cons, List.length_nil] at hn
      by_cases e : n < g.1.length
      · show StA l i o most (k + 1) ((g.1 ++ [_]).getD n default)
        rw [gD_l e]
        exact (h.a n e).mono fun _ q => by
          rw [hdp]
          split
          · exact minW_pos hm (by omega)
          · exact q
      · have : n = g.1.length := by omega
        subst this
        show StA l i o most (k + 1) ((g.1 ++ [_]).getD g.1.length default)
        rw [gD_r]
        refine ⟨by show (0 : Int) ≤ k; omega, by show (k : Int) < (k + 1 : Nat); omega, hx, rfl, h0, .inl rfl, fun j h1 h2 _ => ?_⟩
        have h1 : (k : Int) < j := h1
        have : j = k + 1 := by omega
        subst this
        show 1 ≤ dp i o most l (l.getD k default).2.1 (k + 1)
        rw [hdp, if_pos rfl]
        exact minW_pos hm (hp _ _)
    · rw [List.length_append] at hn
      simp only [List.length_cons, List.length_nil] at hn
      show ((g.1 ++ [_]).getD m default).fr < ((g.1 ++ [_]).getD n default).fr
      rw [gD_l (n := m) (by omega)]
      by_cases e : n < g.1.length
      · rw [gD_l e]; exact h.b m n hmn e
      · have : n = g.1.length := by omega
        subst this
        rw [gD_r]
        exact (h.a m (by omega)).fk
    · show oD (setM g.2.1 (l.getD k default).2.1 (minW 0 most)) a = _
      rw [oD_setM, hdp]
      by_cases e : a = (l.getD k default).2.1
      · rw [if_pos e, if_pos e, e, h0]
      · rw [if_neg e, if_neg e, h.c]
    · show 0 ≤ oD (setM g.2.2 (l.getD k default).2.1 g.1.length) a ∧ oD (setM g.2.2 (l.getD k default).2.1 g.1.length) a < ((g.1 ++ [_]).length : Nat) ∧ ((g.1 ++ [_]).getD (oD (setM g.2.2 (l.getD k default).2.1 g.1.length) a).toNat default).th = a ∧ ((g.1 ++ [_]).getD (oD (setM g.2.2 (l.getD k default).2.1 g.1.length) a).toNat default).to = -1
      rw [oD_setM, List.length_append]
      simp only [List.length_cons, List.length_nil]
      rw [hdp] at ha
      by_cases e : a = (l.getD k default).2.1
      · rw [if_pos e, Int.toNat_natCast, gD_r]
        exact ⟨by omega, by omega, e.symm, rfl⟩
      · rw [if_neg e] at ha ⊢
        have hw := h.w a ha
        rw [gD_l (by omega)]
        exact ⟨hw.1, by omega, hw.2.2⟩
    · show ∃ n, n < (g.1 ++ [(⟨(l.getD k default).2.1, k, -1⟩ : Sc)]).length ∧ ((g.1 ++ [(⟨(l.getD k default).2.1, k, -1⟩ : Sc)]).getD n default).fr = (f : Int)
      rw [List.length_append]
      by_cases e : f < k
      · obtain ⟨n, hn, en⟩ := h.d f e hi hd
        exact ⟨n, by omega, by rw [gD_l hn]; exact en⟩
      · have : f = k := by omega
        subst this
        exact ⟨g.1.length, by simp only [List.length_cons, List.length_nil]; omega, by rw [gD_r]⟩
  · have e : inG g (l.getD k default).2.1 k most = (g.1, setM g.2.1 (l.getD k default).2.1 (minW (oD g.2.1 (l.getD k default).2.1) most), g.2.2) := by rw [inG, if_neg h0]
    rw [e]
    clear e
    rw [h.c] at h0 ⊢
    refine h.same (by omega) rfl rfl (fun a => ?_) (fun a => ?_) fun _ => h0
    · show oD (setM g.2.1 _ _) a = _
      rw [oD_setM, hdp]
      by_cases e : a = (l.getD k default).2.1
      · rw [if_pos e, if_pos e, e]
      · rw [if_neg e, if_neg e, h.c]
    · rw [hdp]
      by_cases e : a = (l.getD k default).2.1
      · rw [if_pos e, e]
        have h1 := minW_pos hm (hp (l.getD k default).2.1 k)
        constructor <;> intro q <;> omega
      · rw [if_neg e]
theorem StK.out {l : List Ev} {i o most : Int} {k : Nat} {g : OpG} (h : StK l i o most k g) (hm : 1 ≤ most) (hx : ¬ (l.getD k default).1 = i) (hy : (l.getD k default).1 = o) : StK l i o most (k + 1) (outG g (l.getD k default).2.1 k) := by
  have hdp : ∀ a, dp i o most l a (k + 1) = if a = (l.getD k default).2.1 ∧ ¬ dp i o most l a k = 0 then dp i o most l a k - 1 else dp i o most l a k := fun a => stp_out hx hy
  have hp : ∀ a k, 0 ≤ dp i o most l a k := fun a k => dp_pos (by omega) l a k
  by_cases h0 : oD g.2.1 (l.getD k default).2.1 = 0
  · rw [outG_0 h0]
    rw [h.c] at h0
    have hs : ∀ a, dp i o most l a (k + 1) = dp i o most l a k := fun a => by
      rw [hdp]
      exact if_neg fun q => q.2 (q.1 ▸ h0)
    exact h.same (by omega) rfl rfl (fun a => by rw [hs, h.c]) (fun a => by rw [hs]) fun q => absurd q hx
  by_cases h1 : oD g.2.1 (l.getD k default).2.1 = 1
  · rw [outG_1 h0 h1]
    rw [h.c] at h0 h1 ⊢
    generalize hth : (l.getD k default).2.1 = th at *
    obtain ⟨w1, w2, w3, w4⟩ := h.w th h0
    generalize hq : (oD g.2.2 th).toNat = q at *
    have hqn : q < g.1.length := by omega
    have fr' : ∀ m, ((g.1.set q { g.1.getD q default with to := (k : Int) }).getD m default).fr = (g.1.getD m default).fr := fun m => by
      rw [gD_set]
      split
      · rename_i e; rw [← e.1]
      · rfl
    have hk1 : dp i o most l th (k + 1) = 0 := by rw [hdp, if_pos ⟨rfl, h0⟩]; omega
    refine ⟨fun n hn => ?_, fun m n hmn hn => ?_, fun a => ?_, fun a ha => ?_, fun f hf hi hd => ?_⟩
    · rw [List.length_set] at hn
      show StA l i o most (k + 1) ((g.1.set q _).getD n default)
      rw [gD_set]
      by_cases e : q = n
      · subst e
        rw [if_pos ⟨rfl, hqn⟩]
        have ha := h.a q hqn
        refine ⟨ha.f0, by have := ha.fk; show (g.1.getD q default).fr < _; omega, ha.fi, ha.ft, ha.d0, .inr ⟨ha.fk, ?_, ?_, ?_, ?_⟩, fun j h1 h2 h3 => ?_⟩
        · show (k : Int) < (k + 1 : Nat); omega
        · show (l.getD (Int.toNat k) default).1 = o; exact hy
        · show (l.getD (Int.toNat k) default).2.1 = (g.1.getD q default).th; rw [w3]; exact hth
        · show dp i o most l (g.1.getD q default).th (Int.toNat k + 1) = 0; rw [w3]; exact hk1
        · have h3 : (j : Int) ≤ k := h3 (by show (0 : Int) ≤ k; omega)
          exact ha.dn j h1 (by omega) fun q => by omega
      · rw [if_neg fun z => e z.1]
        have ha := h.a n hn
        refine ha.mono fun ht q1 => ?_
        rw [hdp]
        refine if_neg (fun z => ?_) ▸ q1
        have hth2 := z.1
        have hb := h.a q hqn
        rcases Nat.lt_or_gt_of_ne e with z | z
        · have hf := h.b q n z hn
          have := hb.dn (g.1.getD n default).fr.toNat (by have := ha.f0; omega) (by have := ha.fk; have := ha.f0; omega) (fun q => by omega)
          rw [w3] at this
          have h2 := ha.d0
          rw [hth2] at h2
          omega
        · have hf := h.b n q z hqn
          have := ha.dn (g.1.getD q default).fr.toNat (by have := hb.f0; omega) (by have := hb.fk; have := hb.f0; omega) (fun q => by omega)
          rw [hth2] at this
          have h2 := hb.d0
          rw [w3] at h2
          omega
    · rw [List.length_set] at hn
      show ((g.1.set q _).getD m default).fr < ((g.1.set q _).getD n default).fr
      rw [fr', fr']
      exact h.b m n hmn hn
    · show oD (setM g.2.1 _ _) a = _
      rw [oD_setM, hdp]
      by_cases e : a = th
      · rw [if_pos e, if_pos ⟨e, by rw [e]; exact h0⟩, e]
      · rw [if_neg e, if_neg (fun q => e q.1), h.c]
    · have e : ¬ a = th := fun e => ha (e ▸ hk1)
      rw [hdp, if_neg (fun q => e q.1)] at ha
      obtain ⟨v1, v2, v3, v4⟩ := h.w a ha
      show 0 ≤ oD g.2.2 a ∧ oD g.2.2 a < ((g.1.set q _).length : Nat) ∧ ((g.1.set q _).getD _ default).th = a ∧ ((g.1.set q _).getD _ default).to = -1
      have ne : ¬ q = (oD g.2.2 a).toNat := fun e2 => by
        rw [← e2, w3] at v3
        exact e v3.symm
      rw [List.length_set, gD_set, if_neg (fun z => ne z.1)]
      exact ⟨v1, v2, v3, v4⟩
    · have : f < k := by
        by_cases e : f = k
        · subst e; exact absurd hi hx
        · omega
      obtain ⟨n, hn, en⟩ := h.d f this hi hd
      exact ⟨n, by show n < (g.1.set q _).length; rw [List.length_set]; exact hn, by show ((g.1.set q _).getD n default).fr = _; rw [fr']; exact en⟩
  · rw [outG_2 h0 h1]
    rw [h.c] at h0 h1 ⊢
    refine h.same (by omega) rfl rfl (fun a => ?_) (fun a => ?_) fun q => absurd q hx
    · show oD (setM g.2.1 _ _) a = _
      rw [oD_setM, hdp]
      by_cases e : a = (l.getD k default).2.1
      · rw [if_pos e, if_pos ⟨e, by rw [e]; exact h0⟩, e]
      · rw [if_neg e, if_neg (fun q => e q.1), h.c]
    · rw [hdp]
      by_cases e : a = (l.getD k default).2.1
      · rw [if_pos ⟨e, by rw [e]; exact h0⟩, e]
        constructor <;> intro q <;> omega
      · rw [if_neg fun q => e q.1]
theorem StK.step {l : List Ev} {i o most : Int} {k : Nat} {g : OpG} (h : StK l i o most k g) (hm : 1 ≤ most) : StK l i o most (k + 1) (strS i o most g k (l.getD k default)) := by
  unfold strS
  by_cases hx : (l.getD k default).1 = i
  · rw [if_pos hx]; exact h.inn hm hx
  rw [if_neg hx]
  by_cases hy : (l.getD k default).1 = o
  · rw [if_pos hy]; exact h.out hm hx hy
  rw [if_neg hy]
  have hs : ∀ a, dp i o most l a (k + 1) = dp i o most l a k := fun a => stp_skip hx hy
  exact h.same (by omega) rfl rfl (fun a => by rw [hs, h.c]) (fun a => by rw [hs]) fun q => absurd q hx
/-- What is so of all stretches. -/
structure Sts (l : List Ev) (i o most : Int) (L : List Sc) : Prop where
  a : ∀ n, n < L.length → StA l i o most l.length (L.getD n default)
  b : ∀ m n, m < n → n < L.length → (L.getD m default).fr < (L.getD n default).fr
  d : ∀ f, f < l.length → (l.getD f default).1 = i → dp i o most l (l.getD f default).2.1 f = 0 → ∃ n, n < L.length ∧ (L.getD n default).fr = f
theorem sts_go {l : List Ev} {i o most : Int} (hm : 1 ≤ most) : ∀ (r : List Ev) (k : Nat) (g : OpG), k ≤ l.length → l.drop k = r → StK l i o most k g → Sts l i o most (strW i o most r k g).1
  | [], k, g, hk, hr, h => by
    have : k = l.length := by
      have := congrArg List.length hr
      rw [List.length_drop, List.length_nil] at this
      omega
    subst this
    exact ⟨h.a, h.b, h.d⟩
  | x :: r, k, g, hk, hr, h => by
    have hk : k < l.length := by
      have := congrArg List.length hr
      rw [List.length_drop, List.length_cons] at this
      omega
    rw [drop_getD (d := default) hk] at hr
    have hx := (List.cons.inj hr).1
    have hr2 := (List.cons.inj hr).2
    rw [strW, ← hx]
    exact sts_go hm r (k + 1) _ hk hr2 (h.step hm)
theorem syn_sts (l : List Ev) : Sts l 4 5 1 (synF l) := sts_go (Int.le_refl _) l 0 op0 (Nat.zero_le _) rfl (StK.start l 4 5 1)
theorem StA.most {l : List Ev} {i o m m' : Int} {k : Nat} {s : Sc} (h : StA l i o m k s) (h1 : (k : Int) ≤ m) (h2 : (k : Int) ≤ m') : StA l i o m' k s := by
  have e : ∀ j : Nat, j ≤ k → dp i o m' l s.th j = dp i o m l s.th j := fun j hj => dp_most l _ j (by omega) (by omega)
  refine ⟨h.f0, h.fk, h.fi, h.ft, ?_, ?_, fun j h1 h2 h3 => by rw [e j h2]; exact h.dn j h1 h2 h3⟩
  · rw [e _ (by have := h.fk; have := h.f0; omega)]; exact h.d0
  · rcases h.t with q | ⟨a, b, c, d, f⟩
    · exact .inl q
    · refine .inr ⟨a, b, c, d, ?_⟩
      have := h.f0
      rw [e _ (by omega)]; exact f
theorem sec_sts {l : List Ev} (hl : l.length ≤ 100) : Sts l 2 3 100 (secF l) := by
  by_cases h0 : l.length = 0
  · have : l = [] := List.eq_nil_of_length_eq_zero h0
    subst this
    exact ⟨fun n hn => absurd hn (Nat.not_lt_zero _), fun _ n _ hn => absurd hn (Nat.not_lt_zero _), fun _ hn => absurd hn (Nat.not_lt_zero _)⟩
  have h := sts_go (l := l) (i := 2) (o := 3) (most := l.length) (by omega) l 0 op0 (Nat.zero_le _) rfl (StK.start l 2 3 l.length)
  refine ⟨fun n hn => (h.a n hn).most (by omega) (by omega), h.b, fun f hf hi hd => h.d f hf hi ?_⟩
  rw [← hd]
  exact dp_most l _ f (by omega) (by omega)
theorem Sts.late {l : List Ev} {i o most : Int} {L : List Sc} (h : Sts l i o most L) {f c : Nat} {th : Int} (hth : (l.getD f default).2.1 = th) (hi : (l.getD f default).1 = i) (h0 : dp i o most l th f = 0) (hf : f < l.length) (hd : ∀ j : Nat, f < j → j ≤ c → 1 ≤ dp i o most l th j) :
    ∃ s ∈ L, s.fr = f ∧ s.th = th ∧ (s.to = -1 ∨ c ≤ s.to) := by
  subst hth
  obtain ⟨n, hn, e⟩ := h.d f hf hi h0
  have ha := h.a n hn
  have e2 := ha.ft
  rw [e] at e2
  have e2 : (l.getD f default).2.1 = (L.getD n default).th := e2
  refine ⟨_, gD_mem hn, e, e2.symm, ?_⟩
  rcases ha.t with q | ⟨a, b, c1, d, g⟩
  · exact .inl q
  · refine .inr ?_
    by_cases z : (c : Int) ≤ (L.getD n default).to
    · exact z
    · have := hd ((L.getD n default).to.toNat + 1) (by omega) (by omega)
      rw [e2, g] at this
      omega
theorem Sts.ended {l : List Ev} {i o most : Int} {L : List Sc} (h : Sts l i o most L) {f t : Nat} {th : Int} (hth : (l.getD f default).2.1 = th) (hi : (l.getD f default).1 = i) (h0 : dp i o most l th f = 0) (hf : f < t) (ht : t < l.length) (he : dp i o most l th (t + 1) = 0) (hd : ∀ j : Nat, f < j → j ≤ t → 1 ≤ dp i o most l th j) :
    ∃ s ∈ L, s.fr = f ∧ s.th = th ∧ s.to = t := by
  obtain ⟨s, hs, e, e2, hc⟩ := h.late hth hi h0 (by omega) hd
  refine ⟨s, hs, e, e2, ?_⟩
  obtain ⟨n, hn, en⟩ := mem_gD hs
  have ha := h.a n hn
  rw [en] at ha
  by_cases q : s.to = t
  · exact q
  · have := ha.dn (t + 1) (by omega) (by omega) (fun _ => by omega)
    rw [e2] at this
    omega
end Go.Eng
