/- Histories whose events stand against one another are alike. -/
import Derived.Test.YthhangpcedbhdaaHiK
set_option linter.unusedVariables false
set_option linter.unusedSimpArgs false
namespace Go.Eng
open Go Go.Proofs

def cP (P : Nat → Bool) : Nat → Nat
  | 0 => 0
  | k + 1 => cP P k + if P k = true then 1 else 0
theorem cP_congr {P Q : Nat → Bool} : ∀ k, (∀ i, i < k → P i = Q i) → cP P k = cP Q k
  | 0, _ => rfl
  | k + 1, h => by rw [cP, cP, cP_congr k (fun i hi => h i (by omega)), h k (by omega)]
theorem cP_rm {Q : Nat → Bool} {q : Nat} (hq : Q q = true) : ∀ j, q < j → cP (fun i => Q i && decide (¬ i = q)) j + 1 = cP Q j
  | 0, h => absurd h (Nat.not_lt_zero _)
  | j + 1, h => by
    rw [cP, cP]
    by_cases e : q = j
    · subst e
      rw [cP_congr (P := fun i => Q i && decide (¬ i = q)) (Q := Q) q (fun i hi => by rw [decide_eq_true (show ¬ i = q by omega), Bool.and_true])]
      rw [hq, if_pos rfl, if_neg (by simp)]
    · have := cP_rm hq j (by omega)
      rw [decide_eq_true (show ¬ j = q by omega), Bool.and_true]
      omega
theorem cP_le : ∀ (i j : Nat) (P Q : Nat → Bool) (f : Nat → Nat), (∀ p, p < i → P p = true → f p < j ∧ Q (f p) = true) → (∀ p q, p < i → q < i → P p = true → P q = true → f p = f q → p = q) → cP P i ≤ cP Q j
  | 0, j, P, Q, f, _, _ => Nat.zero_le _
  | i + 1, j, P, Q, f, h1, h2 => by
    rw [cP]
    by_cases e : P i = true
    · rw [if_pos e]
      obtain ⟨a, b⟩ := h1 i (by omega) e
      rw [← cP_rm b j a]
      have := cP_le i j P (fun q => Q q && decide (¬ q = f i)) f (fun p hp hP => by
        obtain ⟨c, d⟩ := h1 p (by omega) hP
        refine ⟨c, ?_⟩
        show (Q (f p) && decide (¬ f p = f i)) = true
        rw [d, decide_eq_true (show ¬ f p = f i from fun z => by have := h2 p i (by omega) (by omega) hP e z; omega)]; rfl) fun p q hp hq => h2 p q (by omega) (by omega)
      omega
    · rw [if_neg e]
      exact cP_le i j P Q f (fun p hp => h1 p (by omega)) fun p q hp hq => h2 p q (by omega) (by omega)
def isC (x : Ev) : Prop := x.1 = 0 ∨ x.1 = 1
theorem cK_cP (l : List Ev) (th kd : Int) : ∀ k : Nat, cK l th kd k = (cP (fun p => decide ((l.getD p default).2.1 = th ∧ (l.getD p default).1 = kd)) k : Nat)
  | 0 => rfl
  | k + 1 => by
    rw [cK, cP, cK_cP l th kd k]
    by_cases e : (l.getD k default).2.1 = th ∧ (l.getD k default).1 = kd
    · rw [if_pos e, if_pos (decide_eq_true e)]; omega
    · rw [if_neg e, if_neg (by rw [decide_eq_false e]; exact Bool.noConfusion)]; omega
theorem endG_no (l : List Ev) (th : Int) (i : Nat) : ∀ (k : Nat), endG l th i k = -1 → ∀ j : Nat, i < j → j < k → ¬ ((l.getD j default).2.1 = th ∧ (l.getD j default).1 = 1)
  | 0, _, j, _, h => absurd h (Nat.not_lt_zero _)
  | k + 1, h, j, h1, h2 => by
    unfold endG at h
    split at h
    · omega
    · rename_i q
      by_cases e : j = k
      · subst e
        exact fun z => q ⟨by omega, h1, z.1, z.2⟩
      · exact endG_no l th i k h j h1 (by omega)
theorem endG_yes (l : List Ev) (th : Int) (i : Nat) : ∀ (k : Nat), 0 ≤ endG l th i k → (l.getD (endG l th i k).toNat default).2.1 = th ∧ (l.getD (endG l th i k).toNat default).1 = 1 ∧ ∀ j : Nat, i < j → (j : Int) < endG l th i k → ¬ ((l.getD j default).2.1 = th ∧ (l.getD j default).1 = 1)
  | 0, h => absurd h (by show ¬ (0 : Int) ≤ -1; omega)
  | k + 1, h => by
    unfold endG at h ⊢
    split at h
    · rename_i q
      rw [if_pos q, Int.toNat_natCast]
      refine ⟨q.2.2.1, q.2.2.2, fun j h1 h2 => ?_⟩
      have hn := endG_in l th i k
      exact endG_no l th i k (by omega) j h1 (by omega)
    · rename_i q
      rw [if_neg q]
      exact endG_yes l th i k h
/-- The calls' events of two histories, one against the other. -/
structure Corr (l l' : List Ev) (π : Nat → Nat) : Prop where
  im : ∀ p, p < l.length → isC (l.getD p default) → π p < l'.length ∧ l'.getD (π p) default = l.getD p default
  sj : ∀ q, q < l'.length → isC (l'.getD q default) → ∃ p, p < l.length ∧ isC (l.getD p default) ∧ π p = q
  th : ∀ p q, p < q → q < l.length → isC (l.getD p default) → isC (l.getD q default) → (l.getD p default).2.1 = (l.getD q default).2.1 → π p < π q
  be : ∀ p q, p < l.length → q < l.length → (l.getD p default).1 = 1 → (l.getD q default).1 = 0 → (p < q ↔ π p < π q)
  ij : ∀ p q, p < l.length → q < l.length → isC (l.getD p default) → isC (l.getD q default) → π p = π q → p = q
section
variable {l l' : List Ev} {π : Nat → Nat}
theorem Corr.back (h : Corr l l' π) {p q : Nat} (hp : p < l.length) (hc : isC (l.getD p default)) (hq : q < l'.length) (hc2 : isC (l'.getD q default)) (hth : (l'.getD q default).2.1 = (l.getD p default).2.1) : ∃ r, r < l.length ∧ isC (l.getD r default) ∧ π r = q ∧ l'.getD q default = l.getD r default ∧ (q < π p ↔ r < p) ∧ (π p < q ↔ p < r) := by
  obtain ⟨r, h1, h2, h3⟩ := h.sj q hq hc2
  have h4 := (h.im r h1 h2).2
  rw [h3] at h4
  refine ⟨r, h1, h2, h3, h4, ?_⟩
  have ht : (l.getD r default).2.1 = (l.getD p default).2.1 := by rw [← h4]; exact hth
  rcases Nat.lt_trichotomy r p with e | e | e
  · have := h.th r p e hp h2 hc ht
    rw [h3] at this
    constructor <;> constructor <;> intro <;> omega
  · subst e
    constructor <;> constructor <;> intro <;> omega
  · have := h.th p r e h1 hc h2 ht.symm
    rw [h3] at this
    constructor <;> constructor <;> intro <;> omega
theorem Corr.cK (h : Corr l l' π) {p : Nat} (hp : p < l.length) (hc : isC (l.getD p default)) {kd : Int} (hkd : kd = 0 ∨ kd = 1) : cK l' (l.getD p default).2.1 kd (π p) = cK l (l.getD p default).2.1 kd p := by
  obtain ⟨hp', _⟩ := h.im p hp hc
  rw [cK_cP, cK_cP]
  congr 1
  refine Nat.le_antisymm ?_ ?_
  · have hb : ∀ q, q < π p → decide ((l'.getD q default).2.1 = (l.getD p default).2.1 ∧ (l'.getD q default).1 = kd) = true → ∃ r, r < p ∧ π r = q ∧ l'.getD q default = l.getD r default := by
      intro q hq hQ
      have hQ := of_decide_eq_true hQ
      obtain ⟨r, h1, h2, h3, h4, h5, h6⟩ := h.back hp hc (q := q) (by omega) (by unfold isC; omega) hQ.1
      exact ⟨r, h5.1 hq, h3, h4⟩
    refine cP_le _ _ _ _ (fun q => if z : ∃ r, r < p ∧ π r = q ∧ l'.getD q default = l.getD r default then Classical.choose z else 0) (fun q hq hQ => ?_) (fun q q2 hq hq2 hQ hQ2 e => ?_)
    · have z := hb q hq hQ
      have zs := Classical.choose_spec z
      rw [dif_pos z]
      refine ⟨zs.1, ?_⟩
      rw [← zs.2.2]; exact hQ
    · have z := hb q hq hQ
      have z2 := hb q2 hq2 hQ2
      rw [dif_pos z, dif_pos z2] at e
      have zs := Classical.choose_spec z
      have zs2 := Classical.choose_spec z2
      rw [← zs.2.1, ← zs2.2.1, e]
  · refine cP_le _ _ _ _ π (fun q hq hQ => ?_) (fun q q2 hq hq2 hQ hQ2 e => ?_)
    · have hQ' := of_decide_eq_true hQ
      have hcq : isC (l.getD q default) := by unfold isC; omega
      obtain ⟨h1, h2⟩ := h.im q (by omega) hcq
      refine ⟨h.th q p hq hp hcq hc hQ'.1, ?_⟩
      rw [h2]; exact hQ
    · have a := of_decide_eq_true hQ
      have b := of_decide_eq_true hQ2
      exact h.ij q q2 (by omega) (by omega) (by unfold isC; omega) (by unfold isC; omega) e
theorem Corr.right (h : Corr l l' π) (hr : hRight l = true) : hRight l' = true := by
  rw [right_iff] at hr ⊢
  intro i hi
  by_cases hc : isC (l'.getD i default)
  · obtain ⟨p, hp, hcp, rfl⟩ := h.sj i hi hc
    have e := (h.im p hp hcp).2
    have := hr p hp
    unfold rOk at this ⊢
    rw [e, h.cK hp hcp (.inl rfl), h.cK hp hcp (.inr rfl)]
    exact this
  · exact ⟨fun q => absurd (.inl q) hc, fun q => absurd (.inr q) hc⟩
theorem Corr.fin (h : Corr l l' π) {i : Nat} (hi : i < l.length) (h0 : (l.getD i default).1 = 0) :
    endG l' (l.getD i default).2.1 (π i) l'.length = if endG l (l.getD i default).2.1 i l.length < 0 then -1 else (π (endG l (l.getD i default).2.1 i l.length).toNat : Int) := by
  have hc : isC (l.getD i default) := .inl h0
  have n1 := endG_in l (l.getD i default).2.1 i l.length
  have n2 := endG_in l' (l.getD i default).2.1 (π i) l'.length
  have y1 := endG_yes l (l.getD i default).2.1 i l.length
  have y2 := endG_yes l' (l.getD i default).2.1 (π i) l'.length
  have x1 := endG_no l (l.getD i default).2.1 i l.length
  have x2 := endG_no l' (l.getD i default).2.1 (π i) l'.length
  generalize endG l (l.getD i default).2.1 i l.length = e at *
  generalize endG l' (l.getD i default).2.1 (π i) l'.length = e' at *
  have back : 0 ≤ e' → ∃ r, r < l.length ∧ π r = e'.toNat ∧ i < r ∧ (l.getD r default).2.1 = (l.getD i default).2.1 ∧ (l.getD r default).1 = 1 := by
    intro h1
    obtain ⟨z1, z2, _⟩ := y2 h1
    obtain ⟨r, r1, r2, r3, r4, r5, r6⟩ := h.back hi hc (q := e'.toNat) (by omega) (.inr z2) z1
    rw [r4] at z1 z2
    exact ⟨r, r1, r3, r6.1 (by omega), z1, z2⟩
  by_cases he : e < 0
  · rw [if_pos he]
    rcases n2 with z | z
    · exact z
    · have he' : 0 ≤ e' := by have := z.1; omega
      have he1 : e = -1 := by
        rcases n1 with q | q
        · exact q
        · have := q.1; omega
      obtain ⟨r, r1, r2, r3, r4, r5⟩ := back he'
      exact absurd ⟨r4, r5⟩ (x1 he1 r r3 r1)
  · rw [if_neg he]
    obtain ⟨z1, z2, z3⟩ := y1 (by omega)
    have hin : (i : Int) < e ∧ e < l.length := by clear back y1 y2 x1 x2 n2 z1 z2 z3; omega
    have hlt : e.toNat < l.length := by clear back y1 y2 x1 x2 n2 n1 z1 z2 z3; omega
    have hie : i < e.toNat := by clear back y1 y2 x1 x2 n2 n1 z1 z2 z3; omega
    obtain ⟨m1, m2⟩ := h.im e.toNat hlt (.inr z2)
    have hπ := h.th i e.toNat hie hlt hc (.inr z2) z1.symm
    have hnot : ¬ e' = -1 := fun q => x2 q (π e.toNat) hπ m1 (by rw [m2]; exact ⟨z1, z2⟩)
    have he' : 0 ≤ e' := by
      rcases n2 with z | z
      · exact absurd z hnot
      · have := z.1; clear back y1 y2 x1 x2 n1; omega
    obtain ⟨r, r1, r2, r3, r4, r5⟩ := back he'
    obtain ⟨_, _, w3⟩ := y2 he'
    clear back y1 y2 x1 x2
    have hle : ¬ (π e.toNat : Int) < e' := fun q => w3 (π e.toNat) hπ q (by rw [m2]; exact ⟨z1, z2⟩)
    rcases Nat.lt_trichotomy r e.toNat with q | q | q
    · exact absurd ⟨r4, r5⟩ (z3 r r3 (by omega))
    · rw [q] at r2; omega
    · have := h.th e.toNat r q r1 (.inr z2) (.inr r5) (by rw [z1, r4])
      omega
theorem Corr.mkS (h : Corr l l' π) {i : Nat} (hi : i < l.length) (h0 : (l.getD i default).1 = 0) : SameP (mkG l' l'.length (π i)) (mkG l l.length i) ∧ (mkG l' l'.length (π i)).fr = (π i : Int) ∧
    (mkG l' l'.length (π i)).to = (if (mkG l l.length i).to < 0 then -1 else (π (mkG l l.length i).to.toNat : Int)) := by
  have hc : isC (l.getD i default) := .inl h0
  obtain ⟨m1, m2⟩ := h.im i hi hc
  have hf := h.fin hi h0
  have hk := h.cK hi hc (.inl rfl)
  have n1 := endG_in l (l.getD i default).2.1 i l.length
  have y1 := endG_yes l (l.getD i default).2.1 i l.length
  unfold SameP mkG
  rw [m2, hf, hk]
  generalize endG l (l.getD i default).2.1 i l.length = e at *
  by_cases he : e < 0
  · simp only [if_pos he, if_pos (show (-1 : Int) < 0 by decide)]
    simp
    omega
  · obtain ⟨z1, z2, z3⟩ := y1 (by omega)
    have hm := (h.im e.toNat (by omega) (.inr z2)).2
    simp only [if_neg he]
    simp only [if_neg (show ¬ ((π e.toNat : Int) < 0) by omega), Int.toNat_natCast, hm]
    simp
    omega
theorem beg_mem : ∀ {k i : Nat}, i ∈ beg l k ↔ i < k ∧ (l.getD i default).1 = 0
  | 0, i => ⟨fun h => absurd h List.not_mem_nil, fun h => absurd h.1 (Nat.not_lt_zero _)⟩
  | k + 1, i => by
    unfold beg
    split
    · rename_i q
      rw [List.mem_append, @beg_mem k i]
      constructor
      · rintro (h | h)
        · exact ⟨by omega, h.2⟩
        · have : i = k := by simpa using h
          subst this; exact ⟨by omega, q⟩
      · intro h
        by_cases e : i = k
        · right; simpa using e
        · exact .inl ⟨by omega, h.2⟩
    · rename_i q
      rw [@beg_mem k i]
      refine ⟨fun h => ⟨by omega, h.2⟩, fun h => ⟨?_, h.2⟩⟩
      by_cases e : i = k
      · subst e; exact absurd h.2 q
      · omega
theorem beg_len : ∀ k, (beg l k).length = cP (fun p => decide ((l.getD p default).1 = 0)) k
  | 0 => rfl
  | k + 1 => by
    rw [cP, ← beg_len k, beg]
    by_cases e : (l.getD k default).1 = 0
    · rw [if_pos e, if_pos (decide_eq_true e), List.length_append]; rfl
    · rw [if_neg e, if_neg (by rw [decide_eq_false e]; exact Bool.noConfusion)]; rfl
theorem Corr.len (h : Corr l l' π) : (spG l l.length).length = (spG l' l'.length).length := by
  unfold spG
  rw [List.length_map, List.length_map, beg_len, beg_len]
  refine Nat.le_antisymm ?_ ?_
  · refine cP_le _ _ _ _ π (fun q hq hQ => ?_) (fun q q2 hq hq2 hQ hQ2 e => ?_)
    · have hQ' := of_decide_eq_true hQ
      obtain ⟨h1, h2⟩ := h.im q hq (.inl hQ')
      exact ⟨h1, by rw [h2]; exact hQ⟩
    · exact h.ij q q2 hq hq2 (.inl (of_decide_eq_true hQ)) (.inl (of_decide_eq_true hQ2)) e
  · have hb : ∀ q, q < l'.length → decide ((l'.getD q default).1 = 0) = true → ∃ r, r < l.length ∧ π r = q ∧ l'.getD q default = l.getD r default := by
      intro q hq hQ
      obtain ⟨r, h1, h2, h3⟩ := h.sj q hq (.inl (of_decide_eq_true hQ))
      have := (h.im r h1 h2).2
      rw [h3] at this
      exact ⟨r, h1, h3, this⟩
    refine cP_le _ _ _ _ (fun q => if z : ∃ r, r < l.length ∧ π r = q ∧ l'.getD q default = l.getD r default then Classical.choose z else 0) (fun q hq hQ => ?_) (fun q q2 hq hq2 hQ hQ2 e => ?_)
    · have z := hb q hq hQ
      have zs := Classical.choose_spec z
      rw [dif_pos z]
      exact ⟨zs.1, by rw [← zs.2.2]; exact hQ⟩
    · have z := hb q hq hQ
      have z2 := hb q2 hq2 hQ2
      rw [dif_pos z, dif_pos z2] at e
      have zs := Classical.choose_spec z
      have zs2 := Classical.choose_spec z2
      rw [← zs.2.1, ← zs2.2.1, e]
theorem oth_hit {y : List Sp} (hy : SpU y) {s : Sp} (hs : -1 ≤ s.to) {r : Nat} (hr : r < y.length) (hp : SameP (y.getD r default) s) : othF y s = (y.getD r default, true) := by
  cases hat : atF y s.th s.n with
  | none => exact absurd ⟨hp.1, hp.2.1⟩ (atG_none hat r hr)
  | some i =>
    obtain ⟨a1, a2⟩ := atG_some hat
    have hi := atG_in y y.length _ _ _ hat
    have e : i.toNat = r := hy.uniq _ _ (by omega) hr (by rw [a1, hp.1]) (by rw [a2, hp.2.1])
    rw [othF_some hat, e, decide_eq_true ((bare_same (hy.to _ hr) hs).2 hp)]
theorem Corr.alike (h : Corr l l' π) (hr : hRight l = true) : alikeF (spansF l) (spansF l') = true := by
  have hr' := h.right hr
  have hx := spU_of hr
  have hy := spU_of hr'
  rw [spansF_is hr] at hx ⊢
  rw [spansF_is hr'] at hy ⊢
  have hlen := h.len
  have hat : ∀ q, q < (spG l l.length).length → ∃ b, b < l.length ∧ (l.getD b default).1 = 0 ∧ (spG l l.length).getD q default = mkG l l.length b := by
    intro q hq
    have hq' : q < (beg l l.length).length := by unfold spG at hq; rw [List.length_map] at hq; exact hq
    refine ⟨(beg l l.length)[q], ?_⟩
    obtain ⟨m1, m2⟩ := beg_mem.1 (List.getElem_mem hq')
    refine ⟨m1, m2, ?_⟩
    unfold spG
    rw [List.getD_eq_getElem?_getD, List.getElem?_map, List.getElem?_eq_getElem hq']; rfl
  have hto : ∀ b, -1 ≤ (mkG l l.length b).to := fun b => by
    have := endG_in l (l.getD b default).2.1 b l.length
    show -1 ≤ endG l (l.getD b default).2.1 b l.length
    omega
  have ho : ∀ b, b < l.length → (l.getD b default).1 = 0 → othF (spG l' l'.length) (mkG l l.length b) = (mkG l' l'.length (π b), true) := by
    intro b hb hb0
    obtain ⟨m1, m2⟩ := h.im b hb (.inl hb0)
    have hmem : π b ∈ beg l' l'.length := beg_mem.2 ⟨m1, by rw [m2]; exact hb0⟩
    obtain ⟨r, hrl, hre⟩ := List.mem_iff_getElem.1 hmem
    have hyr : (spG l' l'.length).getD r default = mkG l' l'.length (π b) := by
      unfold spG
      rw [List.getD_eq_getElem?_getD, List.getElem?_map, List.getElem?_eq_getElem hrl, hre]; rfl
    have := oth_hit hy (s := mkG l l.length b) (hto b) (r := r) (by unfold spG; rw [List.length_map]; exact hrl) (by rw [hyr]; exact (h.mkS hb hb0).1)
    rw [this, hyr]
  refine alike_yes hlen (k := (spG l l.length).length) (Nat.le_refl _) ⟨fun q hq => ?_⟩
  obtain ⟨b, hb, hb0, e⟩ := hat q hq
  rw [e, ho b hb hb0]
  refine ⟨rfl, fun j hj => ?_⟩
  obtain ⟨c, hc, hc0, e2⟩ := hat j hj
  rw [e2, ho c hc hc0]
  obtain ⟨_, f1, t1⟩ := h.mkS hb hb0
  obtain ⟨_, f2, t2⟩ := h.mkS hc hc0
  show decide (0 ≤ (mkG l l.length b).to ∧ (mkG l l.length b).to < (mkG l l.length c).fr) = decide (0 ≤ (mkG l' l'.length (π b)).to ∧ (mkG l' l'.length (π b)).to < (mkG l' l'.length (π c)).fr)
  rw [t1, f2]
  congr 1
  apply propext
  have n1 := endG_in l (l.getD b default).2.1 b l.length
  have y1 := endG_yes l (l.getD b default).2.1 b l.length
  show 0 ≤ endG l (l.getD b default).2.1 b l.length ∧ endG l (l.getD b default).2.1 b l.length < (c : Int) ↔ 0 ≤ (if endG l (l.getD b default).2.1 b l.length < 0 then -1 else (π (endG l (l.getD b default).2.1 b l.length).toNat : Int)) ∧ (if endG l (l.getD b default).2.1 b l.length < 0 then -1 else (π (endG l (l.getD b default).2.1 b l.length).toNat : Int)) < (π c : Int)
  generalize endG l (l.getD b default).2.1 b l.length = e at *
  by_cases he : e < 0
  · rw [if_pos he]; omega
  · rw [if_neg he]
    obtain ⟨z1, z2, _⟩ := y1 (by omega)
    have := h.be e.toNat c (by omega) hc z2 hc0
    omega
end
end Go.Eng
