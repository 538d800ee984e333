/- A part of the walks, and of the machine that proves them (LtPm). -/
set_option linter.unusedVariables false
set_option linter.unusedSimpArgs false
namespace Go.Eng
section
variable {S R : Type} [DecidableEq S] (succ : S → List S) (E : S → Bool) (row : S → R)
/-- Reached from a state. -/
inductive Rch : S → S → Prop
  | refl (s : S) : Rch s s
  | step {s t u : S} (h : t ∈ succ s) (k : Rch t u) : Rch s u
omit [DecidableEq S] in
theorem Rch.trans {s t u : S} (h : Rch succ s t) (k : Rch succ t u) : Rch succ s u := by
  induction h with
  | refl => exact k
  | step h _ ih => exact .step h (ih k)
/-- The search, so deep at most: what was met, and what was told. -/
def dfs : Nat → S → List S × List R → List S × List R
  | 0, _, p => p
  | n + 1, s, p =>
    if s ∈ p.1 then p else
      if E s = true then (((succ s).foldl (fun q t => dfs n t q) (p.1 ++ [s], p.2)).1, ((succ s).foldl (fun q t => dfs n t q) (p.1 ++ [s], p.2)).2 ++ [row s])
      else (succ s).foldl (fun q t => dfs n t q) (p.1 ++ [s], p.2)
/-- What is met of a measure at most m has all met that it reaches. -/
def ClosedV (μ : S → Nat) (m : Nat) (V : List S) : Prop := ∀ t ∈ V, μ t ≤ m → ∀ u, Rch succ t u → u ∈ V
/-- What a search makes of what was met and told. -/
structure Srch (V : List S) (O : List R) (A : S → Prop) (V' : List S) (O' : List R) : Prop where
  sub : ∀ t ∈ V, t ∈ V'
  new : ∀ t ∈ V', t ∈ V ∨ A t
  out : ∀ r, r ∈ O' ↔ r ∈ O ∨ ∃ t, t ∈ V' ∧ ¬ t ∈ V ∧ E t = true ∧ row t = r
variable {succ E row}
omit [DecidableEq S] in
theorem Srch.refl {V : List S} {O : List R} {A : S → Prop} : Srch E row V O A V O :=
  ⟨fun _ h => h, fun _ h => .inl h, fun _ => ⟨.inl, fun h => h.elim id fun ⟨_, h1, h2, _⟩ => absurd h1 h2⟩⟩
theorem Srch.trans {V V1 V2 : List S} {O O1 O2 : List R} {A B C : S → Prop} (h : Srch E row V O A V1 O1) (k : Srch E row V1 O1 B V2 O2) (hA : ∀ t, A t → C t) (hB : ∀ t, B t → C t) : Srch E row V O C V2 O2 := by
  refine ⟨fun t ht => k.sub t (h.sub t ht), fun t ht => ?_, fun r => ?_⟩
  · rcases k.new t ht with h1 | h1
    · rcases h.new t h1 with h2 | h2
      · exact .inl h2
      · exact .inr (hA t h2)
    · exact .inr (hB t h1)
  · rw [k.out r, h.out r]
    constructor
    · rintro ((h1 | ⟨t, h1, h2, h3⟩) | ⟨t, h1, h2, h3⟩)
      · exact .inl h1
      · exact .inr ⟨t, k.sub t h1, h2, h3⟩
      · exact .inr ⟨t, h1, fun h4 => h2 (h.sub t h4), h3⟩
    · rintro (h1 | ⟨t, h1, h2, h3⟩)
      · exact .inl (.inl h1)
      · by_cases h4 : t ∈ V1
        · exact .inl (.inr ⟨t, h4, h2, h3⟩)
        · exact .inr ⟨t, h1, h4, h3⟩
/-- **The search.** -/
theorem dfs_spec (μ : S → Nat) (hμ : ∀ s t, t ∈ succ s → μ t < μ s) : ∀ (n : Nat) (s : S) (V : List S) (O : List R), μ s < n → ClosedV succ μ (μ s) V →
    Srch E row V O (Rch succ s) (dfs succ E row n s (V, O)).1 (dfs succ E row n s (V, O)).2 ∧ (∀ m, μ s ≤ m → ClosedV succ μ m V → ClosedV succ μ m (dfs succ E row n s (V, O)).1) ∧ (∀ u, Rch succ s u → u ∈ (dfs succ E row n s (V, O)).1)
  | 0, _, _, _, h, _ => absurd h (Nat.not_lt_zero _)
  | n + 1, s, V, O, h, hc => by
    have hmu : ∀ {a b : S}, Rch succ a b → μ b ≤ μ a := fun r => by
      induction r with
      | refl => exact Nat.le_refl _
      | step h1 _ ih => exact Nat.le_trans ih (Nat.le_of_lt (hμ _ _ h1))
    by_cases hs : s ∈ V
    · have e : dfs succ E row (n + 1) s (V, O) = (V, O) := by rw [dfs, if_pos hs]
      rw [e]
      exact ⟨Srch.refl, fun _ _ h => h, fun u hu => hc s hs (Nat.le_refl _) u hu⟩
    · -- the states behind s, one by one
      have key : ∀ (l : List S) (V1 : List S) (O1 : List R), (∀ t ∈ l, t ∈ succ s) → (∀ m, m < μ s → ClosedV succ μ m V1) →
          Srch E row V1 O1 (fun u => ∃ t ∈ l, Rch succ t u) (l.foldl (fun q t => dfs succ E row n t q) (V1, O1)).1 (l.foldl (fun q t => dfs succ E row n t q) (V1, O1)).2 ∧
          (∀ m, m < μ s → ClosedV succ μ m (l.foldl (fun q t => dfs succ E row n t q) (V1, O1)).1) ∧ (∀ t ∈ l, ∀ u, Rch succ t u → u ∈ (l.foldl (fun q t => dfs succ E row n t q) (V1, O1)).1) := by
        intro l
        induction l with
        | nil => exact fun V1 O1 _ hV => ⟨Srch.refl, hV, fun t ht => absurd ht (by simp)⟩
        | cons t l ih =>
          intro V1 O1 hl hV
          have ht := hμ s t (hl t (by simp))
          obtain ⟨a1, a2, a3⟩ := dfs_spec μ hμ n t V1 O1 (by omega) (hV _ ht)
          have hV2 : ∀ m, m < μ s → ClosedV succ μ m (dfs succ E row n t (V1, O1)).1 := fun m hm => by
            by_cases hmt : μ t ≤ m
            · exact a2 m hmt (hV m hm)
            · intro x hx hxm u hu
              rcases a1.new x hx with h1 | h1
              · exact a1.sub u (hV m hm x h1 hxm u hu)
              · exact a3 u (h1.trans succ hu)
          obtain ⟨b1, b2, b3⟩ := ih (dfs succ E row n t (V1, O1)).1 (dfs succ E row n t (V1, O1)).2 (fun x hx => hl x (by simp [hx])) hV2
          rw [List.foldl_cons]
          refine ⟨Srch.trans a1 b1 (fun u hu => ⟨t, by simp, hu⟩) (fun u ⟨x, hx, hu⟩ => ⟨x, by simp [hx], hu⟩), b2, fun x hx u hu => ?_⟩
          rcases List.mem_cons.1 hx with rfl | hx
          · exact b1.sub u (a3 u hu)
          · exact b3 x hx u hu
      have hV1 : ∀ m, m < μ s → ClosedV succ μ m (V ++ [s]) := fun m hm t ht htm u hu => by
        rcases List.mem_append.1 ht with h1 | h1
        · exact List.mem_append.2 (.inl (hc t h1 (by omega) u hu))
        · rw [List.mem_singleton] at h1; subst h1; omega
      obtain ⟨k1, k2, k3⟩ := key (succ s) (V ++ [s]) O (fun t h => h) hV1
      have hall : ∀ u, Rch succ s u → u ∈ ((succ s).foldl (fun q t => dfs succ E row n t q) (V ++ [s], O)).1 := fun u hu => by
        cases hu with
        | refl => exact k1.sub s (by simp)
        | step h1 h2 => exact k3 _ h1 u h2
      have hnew : ∀ t ∈ ((succ s).foldl (fun q t => dfs succ E row n t q) (V ++ [s], O)).1, t ∈ V ∨ Rch succ s t := fun t ht => by
        rcases k1.new t ht with h1 | ⟨x, hx, h1⟩
        · rcases List.mem_append.1 h1 with h2 | h2
          · exact .inl h2
          · rw [List.mem_singleton] at h2; subst h2; exact .inr (.refl _)
        · exact .inr (.step hx h1)
      have hcl : ∀ m, μ s ≤ m → ClosedV succ μ m V → ClosedV succ μ m ((succ s).foldl (fun q t => dfs succ E row n t q) (V ++ [s], O)).1 := fun m hm hV t ht htm u hu => by
        rcases hnew t ht with h1 | h1
        · exact k1.sub u (List.mem_append.2 (.inl (hV t h1 htm u hu)))
        · exact hall u (h1.trans succ hu)
      have hsub : ∀ t ∈ V, t ∈ ((succ s).foldl (fun q t => dfs succ E row n t q) (V ++ [s], O)).1 := fun t ht => k1.sub t (List.mem_append.2 (.inl ht))
      cases hE : E s with
      | true =>
        have e : dfs succ E row (n + 1) s (V, O) = (((succ s).foldl (fun q t => dfs succ E row n t q) (V ++ [s], O)).1, ((succ s).foldl (fun q t => dfs succ E row n t q) (V ++ [s], O)).2 ++ [row s]) := by
          rw [dfs, if_neg hs, if_pos hE]
        rw [e]
        refine ⟨⟨hsub, hnew, fun r => ?_⟩, hcl, hall⟩
        show r ∈ _ ++ [row s] ↔ _
        rw [List.mem_append, k1.out r, List.mem_singleton]
        constructor
        · rintro ((h1 | ⟨t, h1, h2, h3⟩) | rfl)
          · exact .inl h1
          · exact .inr ⟨t, h1, fun h4 => h2 (List.mem_append.2 (.inl h4)), h3⟩
          · exact .inr ⟨s, hall s (.refl _), hs, hE, rfl⟩
        · rintro (h1 | ⟨t, h1, h2, h3, h4⟩)
          · exact .inl (.inl h1)
          · by_cases h5 : t = s
            · subst h5; exact .inr h4.symm
            · exact .inl (.inr ⟨t, h1, fun h6 => (List.mem_append.1 h6).elim h2 (fun h7 => h5 (List.mem_singleton.1 h7)), h3, h4⟩)
      | false =>
        have e : dfs succ E row (n + 1) s (V, O) = (succ s).foldl (fun q t => dfs succ E row n t q) (V ++ [s], O) := by
          rw [dfs, if_neg hs, if_neg (by rw [hE]; exact Bool.noConfusion)]
        rw [e]
        refine ⟨⟨hsub, hnew, fun r => ?_⟩, hcl, hall⟩
        rw [k1.out r]
        constructor
        · rintro (h1 | ⟨t, h1, h2, h3⟩)
          · exact .inl h1
          · exact .inr ⟨t, h1, fun h4 => h2 (List.mem_append.2 (.inl h4)), h3⟩
        · rintro (h1 | ⟨t, h1, h2, h3, h4⟩)
          · exact .inl h1
          · by_cases h5 : t = s
            · subst h5; rw [hE] at h3; cases h3
            · exact .inr ⟨t, h1, fun h6 => (List.mem_append.1 h6).elim h2 (fun h7 => h5 (List.mem_singleton.1 h7)), h3, h4⟩
/-- All that is told, from a first state. -/
theorem dfs_all (μ : S → Nat) (hμ : ∀ s t, t ∈ succ s → μ t < μ s) (n : Nat) (s : S) (h : μ s < n) (r : R) : r ∈ (dfs succ E row n s ([], [])).2 ↔ ∃ t, Rch succ s t ∧ E t = true ∧ row t = r := by
  obtain ⟨h1, _, h3⟩ := dfs_spec (E := E) (row := row) μ hμ n s [] [] h fun t ht => absurd ht (by simp)
  rw [h1.out r]
  constructor
  · rintro (h4 | ⟨t, h4, _, h5⟩)
    · exact absurd h4 (by simp)
    · rcases h1.new t h4 with h6 | h6
      · exact absurd h6 (by simp)
      · exact ⟨t, h6, h5⟩
  · rintro ⟨t, h4, h5⟩
    exact .inr ⟨t, h3 t h4, by simp, h5⟩
end
end Go.Eng
namespace Go.Eng
def Dg (n : Int) : Prop := 0 ≤ n ∧ n ≤ 9
def dig (n : Int) : UInt8 := UInt8.ofNat (48 + n.toNat)
def num (n : Int) : List UInt8 := [dig n, 32]
theorem dig_toNat {n : Int} (h : Dg n) : (dig n).toNat = 48 + n.toNat := by
  obtain ⟨h1, h2⟩ := h
  unfold dig
  rw [UInt8.toNat_ofNat']
  omega
theorem dig_inj {a b : Int} (ha : Dg a) (hb : Dg b) (h : dig a = dig b) : a = b := by
  have h := congrArg UInt8.toNat h
  rw [dig_toNat ha, dig_toNat hb] at h
  obtain ⟨h1, h2⟩ := ha
  obtain ⟨h3, h4⟩ := hb
  omega
theorem dig_ne {a : Int} (ha : Dg a) : dig a ≠ 124 ∧ dig a ≠ 47 := by
  constructor <;> intro h <;> have h := congrArg UInt8.toNat h <;> rw [dig_toNat ha] at h <;> obtain ⟨h1, h2⟩ := ha
  · have : (124 : UInt8).toNat = 124 := rfl
    omega
  · have : (47 : UInt8).toNat = 47 := rfl
    omega
/-- A text that begins with a mark, or is none. -/
def Hd (r : List UInt8) : Prop := ∀ c t, r = c :: t → c = 124 ∨ c = 47
theorem Hd.nil : Hd [] := fun _ _ h => by cases h
theorem Hd.cons {c : UInt8} {t : List UInt8} (h : c = 124 ∨ c = 47) : Hd (c :: t) := fun d s e => by cases e; exact h
theorem Hd.dig {a : Int} {t : List UInt8} (ha : Dg a) (h : Hd (dig a :: t)) : False := by
  rcases h _ _ rfl with h | h
  · exact (dig_ne ha).1 h
  · exact (dig_ne ha).2 h
theorem nums_inj : ∀ (a b : List Int) (r s : List UInt8), (∀ x ∈ a, Dg x) → (∀ x ∈ b, Dg x) → Hd r → Hd s → a.flatMap num ++ r = b.flatMap num ++ s → a = b ∧ r = s
  | [], [], r, s, _, _, _, _, h => ⟨rfl, by simpa using h⟩
  | [], y :: b, r, s, _, hb, hr, _, h => by
    have e : r = dig y :: (32 :: (b.flatMap num ++ s)) := by simpa [num] using h
    rw [e] at hr
    exact (hr.dig (hb y (by simp))).elim
  | x :: a, [], r, s, ha, _, _, hs, h => by
    have e : s = dig x :: (32 :: (a.flatMap num ++ r)) := by simpa [num] using h.symm
    rw [e] at hs
    exact (hs.dig (ha x (by simp))).elim
  | x :: a, y :: b, r, s, ha, hb, hr, hs, h => by
    have h : dig x :: 32 :: (a.flatMap num ++ r) = dig y :: 32 :: (b.flatMap num ++ s) := by simpa [num] using h
    injection h with h1 h2
    injection h2 with _ h3
    obtain ⟨e1, e2⟩ := nums_inj a b r s (fun z hz => ha z (by simp [hz])) (fun z hz => hb z (by simp [hz])) hr hs h3
    exact ⟨by rw [e1, dig_inj (ha x (by simp)) (hb y (by simp)) h1], e2⟩
/-- A thread's puts that wait, what it noted, and how many moves it made. -/
abbrev Thr := List (Int × Int) × List Int × Nat
def flat (l : List (Int × Int)) : List Int := l.flatMap fun p => [p.1, p.2]
theorem flat_inj : ∀ (a b : List (Int × Int)), flat a = flat b → a = b
  | [], [], _ => rfl
  | [], _ :: _, h => by simp [flat] at h
  | _ :: _, [], h => by simp [flat] at h
  | (x, y) :: a, (z, w) :: b, h => by
    have h : x :: y :: flat a = z :: w :: flat b := by simpa [flat] using h
    injection h with h1 h2
    injection h2 with h3 h4
    rw [h1, h3, flat_inj a b h4]
def thr (t : Thr) : List UInt8 := 124 :: ((flat t.1).flatMap num ++ 47 :: ((t.2.1 ++ [(t.2.2 : Int)]).flatMap num))
structure ThrOk (t : Thr) : Prop where
  puts : ∀ x ∈ flat t.1, Dg x
  noted : ∀ x ∈ t.2.1 ++ [(t.2.2 : Int)], Dg x
theorem thrs_hd (l : List Thr) : Hd (l.flatMap thr) := by
  cases l with
  | nil => exact Hd.nil
  | cons t l => exact Hd.cons (.inl rfl)
theorem thrs_inj : ∀ (a b : List Thr), (∀ t ∈ a, ThrOk t) → (∀ t ∈ b, ThrOk t) → a.flatMap thr = b.flatMap thr → a = b
  | [], [], _, _, _ => rfl
  | [], _ :: _, _, _, h => by simp [thr] at h
  | _ :: _, [], _, _, h => by simp [thr] at h
  | t :: a, u :: b, ha, hb, h => by
    have h : 124 :: ((flat t.1).flatMap num ++ 47 :: ((t.2.1 ++ [(t.2.2 : Int)]).flatMap num ++ a.flatMap thr)) = 124 :: ((flat u.1).flatMap num ++ 47 :: ((u.2.1 ++ [(u.2.2 : Int)]).flatMap num ++ b.flatMap thr)) := by
      simpa [thr] using h
    injection h with _ h
    obtain ⟨e1, h⟩ := nums_inj _ _ _ _ (ha t (by simp)).puts (hb u (by simp)).puts (Hd.cons (.inr rfl)) (Hd.cons (.inr rfl)) h
    injection h with _ h
    obtain ⟨e2, h⟩ := nums_inj _ _ _ _ (ha t (by simp)).noted (hb u (by simp)).noted (thrs_hd a) (thrs_hd b) h
    have e3 := thrs_inj a b (fun z hz => ha z (by simp [hz])) (fun z hz => hb z (by simp [hz])) h
    obtain ⟨p, n, m⟩ := t
    obtain ⟨q, k, j⟩ := u
    have e1 : p = q := flat_inj _ _ e1
    have e2 : n ++ [(m : Int)] = k ++ [(j : Int)] := e2
    obtain ⟨e4, e5⟩ := List.append_inj' e2 rfl
    have e6 : m = j := Int.ofNat_inj.1 (List.singleton_inj.1 e5)
    rw [e1, e4, e3, e6]
/-- The words, and the threads, as a text. -/
def keyL (ws : List Int) (l : List Thr) : List UInt8 := ws.flatMap num ++ l.flatMap thr
theorem key_inj {ws vs : List Int} {a b : List Thr} (hw : ∀ x ∈ ws, Dg x) (hv : ∀ x ∈ vs, Dg x) (ha : ∀ t ∈ a, ThrOk t) (hb : ∀ t ∈ b, ThrOk t) (h : keyL ws a = keyL vs b) : ws = vs ∧ a = b := by
  obtain ⟨e1, e2⟩ := nums_inj _ _ _ _ hw hv (thrs_hd a) (thrs_hd b) h
  exact ⟨e1, thrs_inj a b ha hb e2⟩
end Go.Eng
namespace Go.Eng
/-- -1, 0, 1: which of two rows comes ahead. -/
def cmpL : List Int → List Int → Int
  | [], [] => 0
  | [], _ :: _ => -1
  | _ :: _, [] => 1
  | x :: a, y :: b => if x < y then -1 else if y < x then 1 else cmpL a b
theorem cmpL_vals : ∀ a b : List Int, cmpL a b = -1 ∨ cmpL a b = 0 ∨ cmpL a b = 1
  | [], [] => .inr (.inl rfl)
  | [], _ :: _ => .inl rfl
  | _ :: _, [] => .inr (.inr rfl)
  | x :: a, y :: b => by
    unfold cmpL
    split
    · exact .inl rfl
    · split
      · exact .inr (.inr rfl)
      · exact cmpL_vals a b
theorem cmpL_self : ∀ a : List Int, cmpL a a = 0
  | [] => rfl
  | x :: a => by
    unfold cmpL
    rw [if_neg (Int.lt_irrefl x), if_neg (Int.lt_irrefl x)]
    exact cmpL_self a
theorem cmpL_eq : ∀ a b : List Int, cmpL a b = 0 → a = b
  | [], [], _ => rfl
  | [], _ :: _, h => by simp [cmpL] at h
  | _ :: _, [], h => by simp [cmpL] at h
  | x :: a, y :: b, h => by
    unfold cmpL at h
    split at h
    · cases h
    · split at h
      · cases h
      · have : x = y := by omega
        rw [this, cmpL_eq a b h]
theorem cmpL_anti : ∀ a b : List Int, cmpL a b = - cmpL b a
  | [], [] => rfl
  | [], _ :: _ => rfl
  | _ :: _, [] => rfl
  | x :: a, y :: b => by
    unfold cmpL
    by_cases h1 : x < y
    · rw [if_pos h1, if_neg (by omega), if_pos h1]
    · by_cases h2 : y < x
      · rw [if_neg h1, if_pos h2, if_pos h2]
        rfl
      · rw [if_neg h1, if_neg h2, if_neg h2, if_neg h1, cmpL_anti a b]
/-- A row comes ahead of another one. -/
def ltL (a b : List Int) : Prop := cmpL a b = -1
theorem ltL_irrefl (a : List Int) : ¬ ltL a a := fun h => by
  unfold ltL at h
  rw [cmpL_self] at h
  cases h
theorem ltL_asymm {a b : List Int} (h : ltL a b) : ¬ ltL b a := fun k => by
  unfold ltL at h k
  rw [cmpL_anti, k] at h
  cases h
theorem ltL_trans : ∀ {a b c : List Int}, ltL a b → ltL b c → ltL a c
  | [], [], _, h, _ => (ltL_irrefl _ h).elim
  | [], _ :: _, [], _, h => by simp [ltL, cmpL] at h
  | [], _ :: _, _ :: _, _, _ => rfl
  | _ :: _, [], _, h, _ => by simp [ltL, cmpL] at h
  | _ :: _, _ :: _, [], _, h => by simp [ltL, cmpL] at h
  | x :: a, y :: b, z :: c, h, k => by
    unfold ltL cmpL at *
    by_cases h1 : x < y
    · by_cases k1 : y < z
      · rw [if_pos (by omega)]
      · rw [if_neg k1] at k
        by_cases k2 : z < y
        · rw [if_pos k2] at k; cases k
        · rw [if_pos (by omega)]
    · rw [if_neg h1] at h
      by_cases h2 : y < x
      · rw [if_pos h2] at h; cases h
      · rw [if_neg h2] at h
        by_cases k1 : y < z
        · rw [if_pos (by omega)]
        · rw [if_neg k1] at k
          by_cases k2 : z < y
          · rw [if_pos k2] at k; cases k
          · rw [if_neg k2] at k
            rw [if_neg (by omega), if_neg (by omega)]
            exact ltL_trans (a := a) (b := b) (c := c) h k
theorem ltL_total (a b : List Int) : ltL a b ∨ a = b ∨ ltL b a := by
  rcases cmpL_vals a b with h | h | h
  · exact .inl h
  · exact .inr (.inl (cmpL_eq _ _ h))
  · right; right
    unfold ltL
    rw [cmpL_anti, h]
/-- Two lists in order, each row once, that have the same rows. -/
theorem sorted_ext : ∀ (a b : List (List Int)), a.Pairwise ltL → b.Pairwise ltL → (∀ x, x ∈ a ↔ x ∈ b) → a = b
  | [], [], _, _, _ => rfl
  | [], y :: b, _, _, h => absurd ((h y).2 (by simp)) (by simp)
  | x :: a, [], _, _, h => absurd ((h x).1 (by simp)) (by simp)
  | x :: a, y :: b, ha, hb, h => by
    obtain ⟨h1, h2⟩ := List.pairwise_cons.1 ha
    obtain ⟨h3, h4⟩ := List.pairwise_cons.1 hb
    have e : x = y := by
      rcases List.mem_cons.1 ((h x).1 (by simp)) with e | hx
      · exact e
      · rcases List.mem_cons.1 ((h y).2 (by simp)) with e | hy
        · exact e.symm
        · exact (ltL_asymm (h3 x hx) (h1 y hy)).elim
    subst e
    rw [sorted_ext a b h2 h4 fun z => ⟨fun hz => ?_, fun hz => ?_⟩]
    · rcases List.mem_cons.1 ((h z).1 (by simp [hz])) with e | hz'
      · subst e; exact (ltL_irrefl _ (h1 z hz)).elim
      · exact hz'
    · rcases List.mem_cons.1 ((h z).2 (by simp [hz])) with e | hz'
      · subst e; exact (ltL_irrefl _ (h3 z hz)).elim
      · exact hz'
/-- Of rows that are alike, side by side, the last one. -/
def compact : List (List Int) → List (List Int)
  | [] => []
  | [x] => [x]
  | x :: y :: l => if x = y then compact (y :: l) else x :: compact (y :: l)
theorem compact_mem : ∀ (l : List (List Int)) (x : List Int), x ∈ compact l ↔ x ∈ l
  | [], _ => by simp [compact]
  | [y], _ => by simp [compact]
  | y :: z :: l, x => by
    unfold compact
    split
    · rename_i e
      subst e
      rw [compact_mem (y :: l) x]
      simp
    · rw [List.mem_cons, compact_mem (z :: l) x]
      simp
theorem compact_sorted : ∀ (l : List (List Int)), l.Pairwise (fun a b => ltL a b ∨ a = b) → (compact l).Pairwise ltL
  | [], _ => List.Pairwise.nil
  | [x], _ => List.pairwise_singleton _ _
  | x :: y :: l, h => by
    obtain ⟨h1, h2⟩ := List.pairwise_cons.1 h
    obtain ⟨h3, _⟩ := List.pairwise_cons.1 h2
    unfold compact
    split
    · exact compact_sorted (y :: l) h2
    · rename_i hne
      refine List.pairwise_cons.2 ⟨fun z hz => ?_, compact_sorted (y :: l) h2⟩
      have hxy : ltL x y := (h1 y (by simp)).resolve_right hne
      rcases List.mem_cons.1 ((compact_mem (y :: l) z).1 hz) with rfl | hz'
      · exact hxy
      · rcases h3 z hz' with h5 | rfl
        · exact ltL_trans hxy h5
        · exact hxy
/-- Any rows, sorted and each once, are one list. -/
theorem rows_one {a b : List (List Int)} (ha : a.Pairwise (fun x y => ltL x y ∨ x = y)) (hb : b.Pairwise ltL) (h : ∀ x, x ∈ a ↔ x ∈ b) : compact a = b :=
  sorted_ext _ _ (compact_sorted a ha) hb fun x => by rw [compact_mem]; exact h x
/-- A row ahead of the first one that it comes ahead of. -/
def insL : List (List Int) → List Int → List (List Int)
  | [], o => [o]
  | x :: l, o => if cmpL o x = -1 then o :: x :: l else x :: insL l o
/-- A row, in its place, once: the document's way. -/
def putL (l : List (List Int)) (o : List Int) : List (List Int) := if o ∈ l then l else insL l o
theorem insL_mem : ∀ (l : List (List Int)) (o x : List Int), x ∈ insL l o ↔ x = o ∨ x ∈ l
  | [], o, x => by simp [insL]
  | y :: l, o, x => by
    unfold insL
    split
    · simp
    · rw [List.mem_cons, insL_mem l o x, List.mem_cons]
      constructor
      · rintro (h | h | h)
        · exact .inr (.inl h)
        · exact .inl h
        · exact .inr (.inr h)
      · rintro (h | h | h)
        · exact .inr (.inl h)
        · exact .inl h
        · exact .inr (.inr h)
theorem putL_mem (l : List (List Int)) (o x : List Int) : x ∈ putL l o ↔ x = o ∨ x ∈ l := by
  unfold putL
  split
  · rename_i h
    constructor
    · exact .inr
    · rintro (rfl | h')
      · exact h
      · exact h'
  · exact insL_mem l o x
theorem insL_sorted : ∀ (l : List (List Int)) (o : List Int), l.Pairwise ltL → ¬ o ∈ l → (insL l o).Pairwise ltL
  | [], o, _, _ => List.pairwise_singleton _ _
  | y :: l, o, h, hn => by
    obtain ⟨h1, h2⟩ := List.pairwise_cons.1 h
    have hne : ¬ o = y := fun e => hn (by simp [e])
    have hnl : ¬ o ∈ l := fun e => hn (by simp [e])
    unfold insL
    split
    · rename_i hlt
      refine List.pairwise_cons.2 ⟨fun z hz => ?_, h⟩
      rcases List.mem_cons.1 hz with rfl | hz
      · exact hlt
      · exact ltL_trans (show ltL o y from hlt) (h1 z hz)
    · rename_i hlt
      refine List.pairwise_cons.2 ⟨fun z hz => ?_, insL_sorted l o h2 hnl⟩
      rcases (insL_mem l o z).1 hz with rfl | hz
      · exact ((ltL_total z y).resolve_left hlt).resolve_left hne
      · exact h1 z hz
theorem putL_sorted {l : List (List Int)} (o : List Int) (h : l.Pairwise ltL) : (putL l o).Pairwise ltL := by
  unfold putL
  split
  · exact h
  · rename_i hn
    exact insL_sorted l o h hn
end Go.Eng
namespace Go.Eng
/-- The words; and each thread: the puts that wait, what it noted, how many moves it made. -/
abbrev LS := List Int × List Thr
/-- Kind, place, value. -/
abbrev Mv := Int × Int × Int
def readL (ws : List Int) (b : List (Int × Int)) (a : Int) : Int :=
  match b.reverse.find? (fun p => decide (p.1 = a)) with
  | some p => p.2
  | none => ws.getD a.toNat 0
/-- A thread's oldest put is stored. -/
def flushL (s : LS) (i : Nat) : Option LS :=
  match s.2[i]? with
  | some (p :: b, nt, a) => some (s.1.set p.1.toNat p.2, s.2.set i (b, nt, a))
  | _ => none
/-- A move of thread i, whose puts, notes and count are told. -/
def doL (d : Nat) (s : LS) (i : Nat) (b : List (Int × Int)) (nt : List Int) (a : Nat) (m : Mv) : Option LS :=
  if m.1 = 0 then
    (if d = 0 then some (s.1.set m.2.1.toNat m.2.2, s.2.set i (b, nt, a + 1))
     else if b.length < d then some (s.1, s.2.set i (b ++ [(m.2.1, m.2.2)], nt, a + 1)) else none)
  else if m.1 = 1 then some (s.1, s.2.set i (b, nt ++ [readL s.1 b m.2.1], a + 1))
  else if m.1 = 2 then (if b = [] then some (s.1, s.2.set i (b, nt, a + 1)) else none)
  else if b = [] then some (s.1.set m.2.1.toNat m.2.2, s.2.set i (b, nt ++ [s.1.getD m.2.1.toNat 0], a + 1)) else none
def moveL (d : Nat) (ms : List (List Mv)) (s : LS) (i : Nat) : Option LS :=
  match s.2[i]? with
  | some (b, nt, a) => match (ms.getD i [])[a]? with
    | some m => doL d s i b nt a m
    | none => none
  | none => none
/-- What thread i makes of a state. -/
def nextL (d : Nat) (ms : List (List Mv)) (s : LS) (i : Nat) : List LS := (flushL s i).toList ++ (moveL d ms s i).toList
def succL (d : Nat) (ms : List (List Mv)) (s : LS) : List LS := (List.range ms.length).flatMap (nextL d ms s)
def endI (ms : List (List Mv)) (s : LS) (i : Nat) : Bool :=
  match s.2[i]? with
  | some (b, _, a) => decide (b = [] ∧ a = (ms.getD i []).length)
  | none => true
def endL (ms : List (List Mv)) (s : LS) : Bool := (List.range ms.length).all (endI ms s)
def rowL (s : LS) : List Int := s.2.flatMap (fun t => t.2.1) ++ s.1
/-- Two for each move that is left, and one for each put that waits. -/
def muI (ms : List (List Mv)) (s : LS) (i : Nat) : Nat :=
  match s.2[i]? with
  | some (b, _, a) => 2 * ((ms.getD i []).length - a) + b.length
  | none => 0
def muL (ms : List (List Mv)) (s : LS) : Nat := ((List.range ms.length).map (muI ms s)).sum
theorem sum_lt : ∀ (l : List Nat) (f g : Nat → Nat), (∀ i ∈ l, g i ≤ f i) → (∃ i ∈ l, g i < f i) → (l.map g).sum < (l.map f).sum
  | [], _, _, _, h => by obtain ⟨i, h, _⟩ := h; simp at h
  | x :: l, f, g, h, k => by
    rw [List.map_cons, List.map_cons, List.sum_cons, List.sum_cons]
    have hle : (l.map g).sum ≤ (l.map f).sum := by
      have hl : ∀ i ∈ l, g i ≤ f i := fun i hi => h i (by simp [hi])
      clear h k
      induction l with
      | nil => simp
      | cons y l ih =>
        rw [List.map_cons, List.map_cons, List.sum_cons, List.sum_cons]
        have h1 := hl y (by simp)
        have h2 := ih fun i hi => hl i (by simp [hi])
        omega
    obtain ⟨i, hi, hk⟩ := k
    have h0 := h x (by simp)
    rcases List.mem_cons.1 hi with rfl | hi
    · omega
    · have := sum_lt l f g (fun i hi => h i (by simp [hi])) ⟨i, hi, hk⟩
      omega
theorem muI_other {ms : List (List Mv)} {s : LS} {ws : List Int} {i j : Nat} {t : Thr} (h : i ≠ j) : muI ms (ws, s.2.set i t) j = muI ms s j := by
  unfold muI
  rw [List.getElem?_set_ne h]
theorem muI_same {ms : List (List Mv)} {s : LS} {ws : List Int} {i : Nat} {b : List (Int × Int)} {nt : List Int} {a : Nat} (h : i < s.2.length) : muI ms (ws, s.2.set i (b, nt, a)) i = 2 * ((ms.getD i []).length - a) + b.length := by
  unfold muI
  rw [List.getElem?_set_self h]
theorem mu_drop {ms : List (List Mv)} {s : LS} {ws : List Int} {i : Nat} {t : Thr} (hi : i < ms.length) (h : muI ms (ws, s.2.set i t) i < muI ms s i) : muL ms (ws, s.2.set i t) < muL ms s := by
  refine sum_lt _ _ _ (fun j _ => ?_) ⟨i, List.mem_range.2 hi, h⟩
  by_cases e : i = j
  · subst e; exact Nat.le_of_lt h
  · exact Nat.le_of_eq (muI_other e)
theorem mu_flush {ms : List (List Mv)} {s t : LS} {i : Nat} (hi : i < ms.length) (h : flushL s i = some t) : muL ms t < muL ms s := by
  unfold flushL at h
  split at h
  · rename_i p b nt a e
    cases h
    have hl := (List.getElem?_eq_some_iff.1 e).1
    refine mu_drop hi ?_
    rw [muI_same hl]
    unfold muI
    rw [e]
    simp only [List.length_cons]
    omega
  · cases h
theorem mu_move {d : Nat} {ms : List (List Mv)} {s t : LS} {i : Nat} (hi : i < ms.length) (h : moveL d ms s i = some t) : muL ms t < muL ms s := by
  unfold moveL at h
  split at h
  case h_2 => cases h
  rename_i b nt a e
  split at h
  case h_2 => cases h
  rename_i m em
  have hl := (List.getElem?_eq_some_iff.1 e).1
  have ha := (List.getElem?_eq_some_iff.1 em).1
  have key : ∀ (ws : List Int) (b' : List (Int × Int)) (nt' : List Int), b'.length ≤ b.length + 1 → muL ms (ws, s.2.set i (b', nt', a + 1)) < muL ms s := by
    intro ws b' nt' hb
    refine mu_drop hi ?_
    rw [muI_same hl]
    unfold muI
    rw [e]
    show 2 * ((ms.getD i []).length - (a + 1)) + b'.length < 2 * ((ms.getD i []).length - a) + b.length
    omega
  unfold doL at h
  split at h
  · split at h
    · cases h; exact key _ _ _ (by omega)
    · split at h
      · cases h; exact key _ _ _ (by simp)
      · cases h
  · split at h
    · cases h; exact key _ _ _ (by omega)
    · split at h
      · split at h
        · cases h; exact key _ _ _ (by omega)
        · cases h
      · split at h
        · cases h; exact key _ _ _ (by omega)
        · cases h
theorem mu_succ {d : Nat} {ms : List (List Mv)} (s t : LS) (h : t ∈ succL d ms s) : muL ms t < muL ms s := by
  unfold succL at h
  obtain ⟨i, hi, h⟩ := List.mem_flatMap.1 h
  have hi := List.mem_range.1 hi
  unfold nextL at h
  rcases List.mem_append.1 h with h | h
  · exact mu_flush hi (Option.mem_toList.1 h)
  · exact mu_move hi (Option.mem_toList.1 h)
/-- What a test tells: the rows of all ended states that are reached. -/
def outL (d : Nat) (ms : List (List Mv)) (s : LS) : List (List Int) := (dfs (succL d ms) (endL ms) rowL (muL ms s + 1) s ([], [])).2
theorem outL_mem (d : Nat) (ms : List (List Mv)) (s : LS) (r : List Int) : r ∈ outL d ms s ↔ ∃ t, Rch (succL d ms) s t ∧ endL ms t = true ∧ rowL t = r :=
  dfs_all (muL ms) (fun s t h => mu_succ s t h) _ s (Nat.lt_succ_self _) r
end Go.Eng
