/- A part of the walks, and of the machine that proves them (LtPg). -/
import Derived.Test.YtgahcoccodhkmaaDoorLtPm
set_option linter.unusedVariables false
set_option linter.unusedSimpArgs false
namespace Go.Eng
theorem succ_mem {d : Nat} {ms : List (List Mv)} {s t : LS} : t ∈ succL d ms s ↔ ∃ i, i < ms.length ∧ (flushL s i = some t ∨ moveL d ms s i = some t) := by
  unfold succL
  rw [List.mem_flatMap]
  constructor
  · rintro ⟨i, hi, h⟩
    refine ⟨i, List.mem_range.1 hi, ?_⟩
    rcases List.mem_append.1 h with h | h
    · exact .inl (Option.mem_toList.1 h)
    · exact .inr (Option.mem_toList.1 h)
  · rintro ⟨i, hi, h⟩
    refine ⟨i, List.mem_range.2 hi, List.mem_append.2 ?_⟩
    rcases h with h | h
    · exact .inl (Option.mem_toList.2 h)
    · exact .inr (Option.mem_toList.2 h)
theorem Rch.one {S : Type} {succ : S → List S} {s t : S} (h : t ∈ succ s) : Rch succ s t := .step h (.refl _)
/-- No put waits. -/
def Emp (s : LS) : Prop := ∀ (i : Nat) (t : Thr), s.2[i]? = some t → t.1 = []
theorem Emp.set {s : LS} {ws : List Int} {i : Nat} {nt : List Int} {a : Nat} (h : Emp s) : Emp (ws, s.2.set i ([], nt, a)) := fun j t ht => by
  have ht : (s.2.set i ([], nt, a))[j]? = some t := ht
  rw [List.getElem?_set] at ht
  split at ht
  · split at ht
    · cases ht; rfl
    · cases ht
  · exact h j t ht
theorem grow_step {d : Nat} {ms : List (List Mv)} {s t : LS} (h : t ∈ succL d ms s) (hE : d = 0 → Emp s) : Rch (succL (d + 1) ms) s t ∧ (d = 0 → Emp t) := by
  obtain ⟨i, hi, h⟩ := succ_mem.1 h
  rcases h with h | h
  · refine ⟨.one (succ_mem.2 ⟨i, hi, .inl h⟩), fun hd => ?_⟩
    unfold flushL at h
    split at h
    · rename_i p b nt a e
      have := hE hd i _ e
      cases this
    · cases h
  · have h0 := h
    unfold moveL at h
    split at h
    case h_2 => cases h
    rename_i b nt a e
    split at h
    case h_2 => cases h
    rename_i m em
    have hl := (List.getElem?_eq_some_iff.1 e).1
    have hmv : ∀ u, doL (d + 1) s i b nt a m = some u → moveL (d + 1) ms s i = some u := fun u hu => by
      unfold moveL
      rw [e]
      show (match (ms.getD i [])[a]? with | some m => doL (d + 1) s i b nt a m | none => none) = some u
      rw [em]
      exact hu
    have hb : d = 0 → b = [] := fun hd => hE hd i _ e
    by_cases hk : m.1 = 0
    · by_cases hd : d = 0
      · have hb0 := hb hd
        subst hd hb0
        unfold doL at h
        rw [if_pos hk, if_pos rfl] at h
        cases h
        have h1 : moveL 1 ms s i = some (s.1, s.2.set i ([(m.2.1, m.2.2)], nt, a + 1)) := hmv _ (by
          unfold doL
          rw [if_pos hk, if_neg (by decide), if_pos (by decide)]
          rfl)
        have h2 : flushL (s.1, s.2.set i ([(m.2.1, m.2.2)], nt, a + 1)) i = some (s.1.set m.2.1.toNat m.2.2, s.2.set i ([], nt, a + 1)) := by
          unfold flushL
          rw [List.getElem?_set_self hl]
          show some (s.1.set m.2.1.toNat m.2.2, (s.2.set i ([(m.2.1, m.2.2)], nt, a + 1)).set i ([], nt, a + 1)) = _
          rw [List.set_set]
        exact ⟨.step (succ_mem.2 ⟨i, hi, .inr h1⟩) (.one (succ_mem.2 ⟨i, hi, .inl h2⟩)), fun _ => (hE rfl).set⟩
      · refine ⟨.one (succ_mem.2 ⟨i, hi, .inr (hmv _ ?_)⟩), fun h => absurd h hd⟩
        unfold doL at h ⊢
        rw [if_pos hk, if_neg hd] at h
        rw [if_pos hk, if_neg (Nat.succ_ne_zero d)]
        split at h
        · rename_i hlt
          rw [if_pos (Nat.lt_succ_of_lt hlt)]
          exact h
        · cases h
    · have h3 : doL (d + 1) s i b nt a m = some t := by
        rw [← h]
        unfold doL
        rw [if_neg hk, if_neg hk]
      refine ⟨.one (succ_mem.2 ⟨i, hi, .inr (hmv _ h3)⟩), fun hd => ?_⟩
      have hb0 := hb hd
      subst hb0
      unfold doL at h
      rw [if_neg hk] at h
      split at h
      · cases h; exact (hE hd).set
      · split at h
        · rw [if_pos rfl] at h; cases h; exact (hE hd).set
        · rw [if_pos rfl] at h; cases h; exact (hE hd).set
theorem grow_rch {d : Nat} {ms : List (List Mv)} {s t : LS} (h : Rch (succL d ms) s t) (hE : d = 0 → Emp s) : Rch (succL (d + 1) ms) s t := by
  induction h with
  | refl => exact .refl _
  | step h _ ih =>
    obtain ⟨h1, h2⟩ := grow_step h hE
    exact h1.trans _ (ih h2)
/-- Each outcome stays one with a greater depth. -/
theorem grow_out {d : Nat} {ms : List (List Mv)} {s : LS} (hE : Emp s) {r : List Int} (h : r ∈ outL d ms s) : r ∈ outL (d + 1) ms s := by
  obtain ⟨t, h1, h2, h3⟩ := (outL_mem d ms s r).1 h
  exact (outL_mem (d + 1) ms s r).2 ⟨t, grow_rch h1 fun _ => hE, h2, h3⟩
/-- The threads of two, changed about. -/
def swL (s : LS) : LS := match s.2 with
  | [t, u] => (s.1, [u, t])
  | _ => s
theorem sw_flush {ws : List Int} {t u : Thr} : flushL (ws, [u, t]) 0 = (flushL (ws, [t, u]) 1).map swL ∧ flushL (ws, [u, t]) 1 = (flushL (ws, [t, u]) 0).map swL := by
  obtain ⟨b, nt, a⟩ := t
  obtain ⟨b', nt', a'⟩ := u
  constructor
  · cases b' <;> rfl
  · cases b <;> rfl
theorem sw_move {d : Nat} {m0 m1 : List Mv} {ws : List Int} {t u : Thr} : moveL d [m1, m0] (ws, [u, t]) 0 = (moveL d [m0, m1] (ws, [t, u]) 1).map swL ∧ moveL d [m1, m0] (ws, [u, t]) 1 = (moveL d [m0, m1] (ws, [t, u]) 0).map swL := by
  obtain ⟨b, nt, a⟩ := t
  obtain ⟨b', nt', a'⟩ := u
  constructor
  · show (match m1[a']? with | some m => doL d (ws, [(b', nt', a'), (b, nt, a)]) 0 b' nt' a' m | none => none) = (match m1[a']? with | some m => doL d (ws, [(b, nt, a), (b', nt', a')]) 1 b' nt' a' m | none => none).map swL
    cases m1[a']? with
    | none => rfl
    | some m =>
      show doL d (ws, [(b', nt', a'), (b, nt, a)]) 0 b' nt' a' m = (doL d (ws, [(b, nt, a), (b', nt', a')]) 1 b' nt' a' m).map swL
      unfold doL
      repeat' split
      all_goals rfl
  · show (match m0[a]? with | some m => doL d (ws, [(b', nt', a'), (b, nt, a)]) 1 b nt a m | none => none) = (match m0[a]? with | some m => doL d (ws, [(b, nt, a), (b', nt', a')]) 0 b nt a m | none => none).map swL
    cases m0[a]? with
    | none => rfl
    | some m =>
      show doL d (ws, [(b', nt', a'), (b, nt, a)]) 1 b nt a m = (doL d (ws, [(b, nt, a), (b', nt', a')]) 0 b nt a m).map swL
      unfold doL
      repeat' split
      all_goals rfl
/-- Two threads. -/
def Two (s : LS) : Prop := ∃ ws t u, s = (ws, [t, u])
theorem two_set {ws : List Int} {s : LS} (h : Two s) (i : Nat) (x : Thr) : Two (ws, s.2.set i x) := by
  obtain ⟨w, t, u, rfl⟩ := h
  match i with
  | 0 => exact ⟨ws, x, u, rfl⟩
  | 1 => exact ⟨ws, t, x, rfl⟩
  | i + 2 => exact ⟨ws, t, u, rfl⟩
theorem two_flush {s t : LS} {i : Nat} (h : Two s) (k : flushL s i = some t) : Two t := by
  unfold flushL at k
  split at k
  · cases k; exact two_set h _ _
  · cases k
theorem two_move {d : Nat} {ms : List (List Mv)} {s t : LS} {i : Nat} (h : Two s) (k : moveL d ms s i = some t) : Two t := by
  unfold moveL at k
  split at k
  case h_2 => cases k
  split at k
  case h_2 => cases k
  unfold doL at k
  repeat' split at k
  all_goals first
    | (cases k; exact two_set h _ _)
    | (cases k; done)
theorem sw_step {d : Nat} {m0 m1 : List Mv} {s t : LS} (hs : Two s) (h : t ∈ succL d [m0, m1] s) : Two t ∧ swL t ∈ succL d [m1, m0] (swL s) := by
  obtain ⟨i, hi, h⟩ := succ_mem.1 h
  have ht : Two t := h.elim (two_flush hs) (two_move hs)
  refine ⟨ht, succ_mem.2 ?_⟩
  obtain ⟨ws, x, y, rfl⟩ := hs
  have hi : i < 2 := hi
  match i, hi, h with
  | 0, _, h => exact ⟨1, by simp, h.imp (fun h => by show flushL (ws, [y, x]) 1 = _; rw [sw_flush.2, h]; rfl) (fun h => by show moveL d [m1, m0] (ws, [y, x]) 1 = _; rw [sw_move.2, h]; rfl)⟩
  | 1, _, h => exact ⟨0, by simp, h.imp (fun h => by show flushL (ws, [y, x]) 0 = _; rw [sw_flush.1, h]; rfl) (fun h => by show moveL d [m1, m0] (ws, [y, x]) 0 = _; rw [sw_move.1, h]; rfl)⟩
theorem sw_rch {d : Nat} {m0 m1 : List Mv} {s t : LS} (hs : Two s) (h : Rch (succL d [m0, m1]) s t) : Two t ∧ Rch (succL d [m1, m0]) (swL s) (swL t) := by
  induction h with
  | refl => exact ⟨hs, .refl _⟩
  | step h _ ih =>
    obtain ⟨h1, h2⟩ := sw_step hs h
    obtain ⟨h3, h4⟩ := ih h1
    exact ⟨h3, .step h2 h4⟩
theorem sw_end {m0 m1 : List Mv} {s : LS} (hs : Two s) (h : endL [m0, m1] s = true) : endL [m1, m0] (swL s) = true := by
  obtain ⟨ws, t, u, rfl⟩ := hs
  have h : (endI [m0, m1] (ws, [t, u]) 0 && (endI [m0, m1] (ws, [t, u]) 1 && true)) = true := h
  show (endI [m1, m0] (ws, [u, t]) 0 && (endI [m1, m0] (ws, [u, t]) 1 && true)) = true
  simp only [Bool.and_true, Bool.and_eq_true] at h ⊢
  exact ⟨h.2, h.1⟩
/-- The threads changed about: each outcome with what they noted changed about. -/
theorem sw_out {d : Nat} {m0 m1 : List Mv} {s : LS} (hs : Two s) {r : List Int} (h : r ∈ outL d [m0, m1] s) : ∃ n0 n1 ws, r = n0 ++ n1 ++ ws ∧ n1 ++ n0 ++ ws ∈ outL d [m1, m0] (swL s) := by
  obtain ⟨t, h1, h2, h3⟩ := (outL_mem d _ s r).1 h
  obtain ⟨h4, h5⟩ := sw_rch hs h1
  have h6 := sw_end h4 h2
  obtain ⟨ws, x, y, rfl⟩ := h4
  refine ⟨x.2.1, y.2.1, ws, by rw [← h3]; simp [rowL], (outL_mem d _ _ _).2 ⟨_, h5, h6, by simp [rowL, swL]⟩⟩
end Go.Eng
namespace Go.Eng
def fz : Mv := (2, 0, 0)
def fence (l : List Mv) : List Mv := l.flatMap fun m => if m.1 = 0 then [m, fz] else [m]
/-- Where move a of l stands when there are fences. -/
def pos (l : List Mv) (a : Nat) : Nat := (fence (l.take a)).length
theorem fence_split {l : List Mv} {a : Nat} {m : Mv} (h : l[a]? = some m) : fence l = fence (l.take a) ++ ((if m.1 = 0 then [m, fz] else [m]) ++ fence (l.drop (a + 1))) := by
  obtain ⟨hlt, hm⟩ := List.getElem?_eq_some_iff.1 h
  have e : l = l.take a ++ m :: l.drop (a + 1) := by
    rw [← hm, ← List.drop_eq_getElem_cons hlt, List.take_append_drop]
  have e2 : fence l = fence (l.take a ++ m :: l.drop (a + 1)) := by rw [← e]
  rw [e2]
  unfold fence
  rw [List.flatMap_append, List.flatMap_cons]
theorem pos_succ {l : List Mv} {a : Nat} {m : Mv} (h : l[a]? = some m) : pos l (a + 1) = pos l a + (if m.1 = 0 then 2 else 1) := by
  unfold pos
  rw [List.take_add_one, h]
  unfold fence
  rw [List.flatMap_append, List.length_append]
  congr 1
  show (List.flatMap (fun m : Mv => if m.1 = 0 then [m, fz] else [m]) [m]).length = _
  rw [List.flatMap_cons, List.flatMap_nil, List.append_nil]
  split <;> rfl
theorem pos_at {l : List Mv} {a : Nat} {m : Mv} (h : l[a]? = some m) : (fence l)[pos l a]? = some m := by
  unfold pos
  rw [fence_split h, List.getElem?_append_right (Nat.le_refl _), Nat.sub_self]
  split <;> rfl
theorem pos_fz {l : List Mv} {a : Nat} {m : Mv} (h : l[a]? = some m) (h0 : m.1 = 0) : (fence l)[pos l a + 1]? = some fz := by
  unfold pos
  rw [fence_split h, List.getElem?_append_right (Nat.le_succ _), Nat.succ_sub (Nat.le_refl _), Nat.sub_self, if_pos h0]
  rfl
theorem pos_len (l : List Mv) : pos l l.length = (fence l).length := by
  unfold pos
  rw [List.take_length]
theorem pos_none {l : List Mv} {a : Nat} (h : a ≤ l.length) (hn : l[a]? = none) : pos l a = (fence l).length := by
  have := List.getElem?_eq_none_iff.1 hn
  have e : a = l.length := Nat.le_antisymm h this
  rw [e, pos_len]
theorem fence_get (ms : List (List Mv)) (i : Nat) : (ms.map fence).getD i [] = fence (ms.getD i []) := by
  rw [List.getD_eq_getElem?_getD, List.getD_eq_getElem?_getD, List.getElem?_map]
  cases ms[i]? <;> rfl
/-- A thread with fences, and one without. -/
inductive FR (l : List Mv) : Thr → Thr → Prop
  | n (nt : List Int) (a : Nat) (h : a ≤ l.length) : FR l ([], nt, pos l a) ([], nt, a)
  | w (nt : List Int) (a : Nat) (m : Mv) (h : l[a]? = some m) (h0 : m.1 = 0) : FR l ([(m.2.1, m.2.2)], nt, pos l a + 1) ([], nt, a)
  | f (nt : List Int) (a : Nat) (m : Mv) (h : l[a]? = some m) (h0 : m.1 = 0) : FR l ([], nt, pos l a + 1) ([], nt, a + 1)
structure FS (ms : List (List Mv)) (f a : LS) : Prop where
  ws : f.1 = a.1
  len : f.2.length = a.2.length
  thr : ∀ (i : Nat) (t u : Thr), f.2[i]? = some t → a.2[i]? = some u → FR (ms.getD i []) t u
theorem FS.both {ms : List (List Mv)} {f a : LS} (R : FS ms f a) (ws : List Int) {i : Nat} {t u : Thr} (h : FR (ms.getD i []) t u) : FS ms (ws, f.2.set i t) (ws, a.2.set i u) where
  ws := rfl
  len := by show (f.2.set i t).length = (a.2.set i u).length; rw [List.length_set, List.length_set]; exact R.len
  thr := fun j x y hx hy => by
    have hx : (f.2.set i t)[j]? = some x := hx
    have hy : (a.2.set i u)[j]? = some y := hy
    rw [List.getElem?_set] at hx hy
    by_cases e : i = j
    · subst e
      rw [if_pos rfl] at hx hy
      split at hx
      · split at hy
        · cases hx; cases hy; exact h
        · cases hy
      · cases hx
    · rw [if_neg e] at hx hy
      exact R.thr j x y hx hy
theorem FS.one {ms : List (List Mv)} {f a : LS} (R : FS ms f a) {i : Nat} {t u : Thr} (hu : a.2[i]? = some u) (h : FR (ms.getD i []) t u) : FS ms (f.1, f.2.set i t) a where
  ws := R.ws
  len := by show (f.2.set i t).length = a.2.length; rw [List.length_set]; exact R.len
  thr := fun j x y hx hy => by
    have hx : (f.2.set i t)[j]? = some x := hx
    rw [List.getElem?_set] at hx
    by_cases e : i = j
    · subst e
      rw [if_pos rfl] at hx
      rw [hu] at hy
      split at hx
      · cases hx; cases hy; exact h
      · cases hx
    · rw [if_neg e] at hx
      exact R.thr j x y hx hy
theorem move_at {d : Nat} {ms : List (List Mv)} {s : LS} {i : Nat} {b : List (Int × Int)} {nt : List Int} {a : Nat} {m : Mv} (h : s.2[i]? = some (b, nt, a)) (hm : (ms.getD i [])[a]? = some m) : moveL d ms s i = doL d s i b nt a m := by
  unfold moveL
  rw [h]
  show (match (ms.getD i [])[a]? with | some m => doL d s i b nt a m | none => none) = _
  rw [hm]
theorem do_store0 {s : LS} {i : Nat} {nt : List Int} {b : List (Int × Int)} {a : Nat} {m : Mv} (h : m.1 = 0) : doL 0 s i b nt a m = some (s.1.set m.2.1.toNat m.2.2, s.2.set i (b, nt, a + 1)) := by
  unfold doL
  rw [if_pos h, if_pos rfl]
/-- A step with fences is none without, or one. -/
theorem fence_step {d : Nat} {ms : List (List Mv)} {f a f' : LS} (R : FS ms f a) (h : f' ∈ succL d (ms.map fence) f) : ∃ a', FS ms f' a' ∧ Rch (succL 0 ms) a a' := by
  obtain ⟨i, hi, h⟩ := succ_mem.1 h
  have hi : i < ms.length := by rw [List.length_map] at hi; exact hi
  have other : ∀ {t : Thr}, f.2[i]? = some t → ∃ u, a.2[i]? = some u ∧ FR (ms.getD i []) t u := fun {t} ht => by
    have hl : i < a.2.length := by rw [← R.len]; exact (List.getElem?_eq_some_iff.1 ht).1
    exact ⟨_, List.getElem?_eq_getElem hl, R.thr i t _ ht (List.getElem?_eq_getElem hl)⟩
  rcases h with h | h
  · unfold flushL at h
    split at h
    case h_2 => cases h
    rename_i p b nt c e
    cases h
    obtain ⟨u, hu, hr⟩ := other e
    cases hr with
    | w nt k m h1 h0 =>
      have h2 : moveL 0 ms a i = some (a.1.set m.2.1.toNat m.2.2, a.2.set i ([], nt, k + 1)) := by rw [move_at hu h1, do_store0 h0]
      refine ⟨_, ?_, .one (succ_mem.2 ⟨i, hi, .inr h2⟩)⟩
      show FS ms (f.1.set m.2.1.toNat m.2.2, f.2.set i ([], nt, pos (ms.getD i []) k + 1)) _
      rw [R.ws]
      exact R.both _ (.f nt k m h1 h0)
  · unfold moveL at h
    split at h
    case h_2 => cases h
    rename_i b nt c e
    split at h
    case h_2 => cases h
    rename_i m' em
    rw [fence_get] at em
    obtain ⟨u, hu, hr⟩ := other e
    cases hr with
    | w nt k m h1 h0 =>
      rw [pos_fz h1 h0] at em
      cases em
      unfold doL at h
      rw [if_neg (by decide), if_neg (by decide), if_pos (by rfl), if_neg (by simp)] at h
      cases h
    | f nt k m h1 h0 =>
      rw [pos_fz h1 h0] at em
      cases em
      unfold doL at h
      rw [if_neg (by decide), if_neg (by decide), if_pos (by rfl), if_pos rfl] at h
      cases h
      refine ⟨a, R.one hu ?_, .refl _⟩
      have e2 : pos (ms.getD i []) k + 1 + 1 = pos (ms.getD i []) (k + 1) := by rw [pos_succ h1, if_pos h0]
      rw [e2]
      exact .n nt (k + 1) (List.getElem?_eq_some_iff.1 h1).1
    | n nt k hk =>
      cases h1 : (ms.getD i [])[k]? with
      | none =>
        rw [pos_none hk h1, List.getElem?_eq_none (Nat.le_refl _)] at em
        cases em
      | some m =>
        rw [pos_at h1] at em
        have em := Option.some.inj em
        subst em
        by_cases h0 : m.1 = 0
        · unfold doL at h
          rw [if_pos h0] at h
          split at h
          · cases h
            have h2 : moveL 0 ms a i = some (a.1.set m.2.1.toNat m.2.2, a.2.set i ([], nt, k + 1)) := by rw [move_at hu h1, do_store0 h0]
            refine ⟨_, ?_, .one (succ_mem.2 ⟨i, hi, .inr h2⟩)⟩
            rw [R.ws]
            exact R.both _ (.f nt k m h1 h0)
          · rename_i hd
            rw [if_pos (show ([] : List (Int × Int)).length < d from Nat.pos_of_ne_zero hd)] at h
            cases h
            exact ⟨a, R.one hu (.w nt k m h1 h0), .refl _⟩
        · have e2 : pos (ms.getD i []) k + 1 = pos (ms.getD i []) (k + 1) := by rw [pos_succ h1, if_neg h0]
          have hlt := (List.getElem?_eq_some_iff.1 h1).1
          have h2 := move_at (d := 0) hu h1
          unfold doL at h h2
          rw [if_neg h0] at h h2
          rw [e2, R.ws] at h
          split at h
          · rename_i h3
            rw [if_pos h3] at h2
            cases h
            exact ⟨_, R.both _ (.n _ (k + 1) hlt), .one (succ_mem.2 ⟨i, hi, .inr h2⟩)⟩
          · rename_i h3
            rw [if_neg h3] at h2
            split at h
            · rename_i h4
              rw [if_pos h4, if_pos rfl] at h2
              rw [if_pos rfl] at h
              cases h
              exact ⟨_, R.both _ (.n _ (k + 1) hlt), .one (succ_mem.2 ⟨i, hi, .inr h2⟩)⟩
            · rename_i h4
              rw [if_neg h4, if_pos rfl] at h2
              rw [if_pos rfl] at h
              cases h
              exact ⟨_, R.both _ (.n _ (k + 1) hlt), .one (succ_mem.2 ⟨i, hi, .inr h2⟩)⟩
theorem fence_rch {d : Nat} {ms : List (List Mv)} {f a f' : LS} (R : FS ms f a) (h : Rch (succL d (ms.map fence)) f f') : ∃ a', FS ms f' a' ∧ Rch (succL 0 ms) a a' := by
  induction h generalizing a with
  | refl => exact ⟨a, R, .refl _⟩
  | step h _ ih =>
    obtain ⟨b, h1, h2⟩ := fence_step R h
    obtain ⟨c, h3, h4⟩ := ih h1
    exact ⟨c, h3, h2.trans _ h4⟩
/-- Ended with fences: ended without, and the same is told. -/
theorem fence_end {ms : List (List Mv)} {f a : LS} (R : FS ms f a) (hl : f.2.length = ms.length) (h : endL (ms.map fence) f = true) : endL ms a = true ∧ rowL f = rowL a := by
  have key : ∀ (i : Nat) (t u : Thr), f.2[i]? = some t → a.2[i]? = some u → u.1 = [] ∧ u.2.2 = (ms.getD i []).length ∧ t.2.1 = u.2.1 := by
    intro i t u ht hu
    have hi : i < ms.length := by rw [← hl]; exact (List.getElem?_eq_some_iff.1 ht).1
    have h1 := List.all_eq_true.1 h i (List.mem_range.2 (by rw [List.length_map]; exact hi))
    unfold endI at h1
    rw [ht] at h1
    have h1 := of_decide_eq_true h1
    rw [fence_get] at h1
    cases R.thr i t u ht hu with
    | n nt k hk =>
      refine ⟨rfl, ?_, rfl⟩
      cases h2 : (ms.getD i [])[k]? with
      | none => exact Nat.le_antisymm hk (List.getElem?_eq_none_iff.1 h2)
      | some m =>
        have h3 := (List.getElem?_eq_some_iff.1 (pos_at h2)).1
        have h4 : pos (ms.getD i []) k = (fence (ms.getD i [])).length := h1.2
        omega
    | w nt k m h2 h0 => cases h1.1
    | f nt k m h2 h0 =>
      have h3 := (List.getElem?_eq_some_iff.1 (pos_fz h2 h0)).1
      have h4 : pos (ms.getD i []) k + 1 = (fence (ms.getD i [])).length := h1.2
      omega
  constructor
  · unfold endL
    refine List.all_eq_true.2 fun i hi => ?_
    unfold endI
    cases hu : a.2[i]? with
    | none => rfl
    | some u =>
      have hlt : i < f.2.length := by rw [R.len]; exact (List.getElem?_eq_some_iff.1 hu).1
      obtain ⟨h1, h2, _⟩ := key i _ u (List.getElem?_eq_getElem hlt) hu
      exact decide_eq_true ⟨h1, h2⟩
  · unfold rowL
    rw [R.ws]
    congr 1
    have : f.2.map (fun t => t.2.1) = a.2.map (fun t => t.2.1) := by
      refine List.ext_getElem? fun i => ?_
      rw [List.getElem?_map, List.getElem?_map]
      cases ht : f.2[i]? with
      | none =>
        have : a.2[i]? = none := by rw [List.getElem?_eq_none_iff, ← R.len]; exact List.getElem?_eq_none_iff.1 ht
        rw [this]
      | some t =>
        have hlt : i < a.2.length := by rw [← R.len]; exact (List.getElem?_eq_some_iff.1 ht).1
        rw [List.getElem?_eq_getElem hlt]
        exact congrArg some (key i t _ ht (List.getElem?_eq_getElem hlt)).2.2
    rw [List.flatMap_def, List.flatMap_def, this]
/-- Between two stores: no put waits, and each thread stands at a move. -/
structure FN (ms : List (List Mv)) (f a : LS) : Prop where
  ws : f.1 = a.1
  len : f.2.length = a.2.length
  thr : ∀ (i : Nat) (t u : Thr), f.2[i]? = some t → a.2[i]? = some u → u.1 = [] ∧ t = ([], u.2.1, pos (ms.getD i []) u.2.2)
theorem FN.both {ms : List (List Mv)} {f a : LS} (R : FN ms f a) (ws : List Int) {i : Nat} {nt : List Int} {k c : Nat} (h : c = pos (ms.getD i []) k) : FN ms (ws, f.2.set i ([], nt, c)) (ws, a.2.set i ([], nt, k)) where
  ws := rfl
  len := by show (f.2.set i _).length = (a.2.set i _).length; rw [List.length_set, List.length_set]; exact R.len
  thr := fun j x y hx hy => by
    have hx : (f.2.set i ([], nt, c))[j]? = some x := hx
    have hy : (a.2.set i ([], nt, k))[j]? = some y := hy
    rw [List.getElem?_set] at hx hy
    by_cases e : i = j
    · subst e
      rw [if_pos rfl] at hx hy
      split at hx
      · split at hy
        · cases hx; cases hy; exact ⟨rfl, by rw [h]⟩
        · cases hy
      · cases hx
    · rw [if_neg e] at hx hy
      exact R.thr j x y hx hy
/-- A step without fences is some with them. -/
theorem unf_step {d : Nat} {ms : List (List Mv)} {f a a' : LS} (R : FN ms f a) (h : a' ∈ succL 0 ms a) : ∃ f', FN ms f' a' ∧ Rch (succL d (ms.map fence)) f f' := by
  obtain ⟨i, hi, h⟩ := succ_mem.1 h
  have hi' : i < (ms.map fence).length := by rw [List.length_map]; exact hi
  have other : ∀ {u : Thr}, a.2[i]? = some u → u.1 = [] ∧ f.2[i]? = some ([], u.2.1, pos (ms.getD i []) u.2.2) := fun {u} hu => by
    have hl : i < f.2.length := by rw [R.len]; exact (List.getElem?_eq_some_iff.1 hu).1
    obtain ⟨h1, h2⟩ := R.thr i _ u (List.getElem?_eq_getElem hl) hu
    exact ⟨h1, by rw [List.getElem?_eq_getElem hl, h2]⟩
  rcases h with h | h
  · unfold flushL at h
    split at h
    case h_2 => cases h
    rename_i p b nt c e
    cases (other e).1
  · unfold moveL at h
    split at h
    case h_2 => cases h
    rename_i b nt k e
    split at h
    case h_2 => cases h
    rename_i m h1
    obtain ⟨hb, ef⟩ := other e
    have hb : b = [] := hb
    subst hb
    have ef : f.2[i]? = some ([], nt, pos (ms.getD i []) k) := ef
    have hl := (List.getElem?_eq_some_iff.1 ef).1
    have hmv : moveL d (ms.map fence) f i = doL d f i [] nt (pos (ms.getD i []) k) m := move_at ef (by rw [fence_get]; exact pos_at h1)
    by_cases h0 : m.1 = 0
    · rw [do_store0 h0] at h
      cases h
      -- behind the store, the fence
      have hfz : Rch (succL d (ms.map fence)) (a.1.set m.2.1.toNat m.2.2, f.2.set i ([], nt, pos (ms.getD i []) k + 1)) (a.1.set m.2.1.toNat m.2.2, f.2.set i ([], nt, pos (ms.getD i []) k + 1 + 1)) := by
        refine .one (succ_mem.2 ⟨i, hi', .inr ?_⟩)
        rw [move_at (List.getElem?_set_self hl) (m := fz) (by rw [fence_get]; exact pos_fz h1 h0)]
        unfold doL
        rw [if_neg (by decide), if_neg (by decide), if_pos (by rfl), if_pos rfl]
        show some (a.1.set m.2.1.toNat m.2.2, (f.2.set i ([], nt, pos (ms.getD i []) k + 1)).set i ([], nt, pos (ms.getD i []) k + 1 + 1)) = _
        rw [List.set_set]
      refine ⟨_, R.both (a.1.set m.2.1.toNat m.2.2) (i := i) (nt := nt) (k := k + 1) (c := pos (ms.getD i []) k + 1 + 1) (by rw [pos_succ h1, if_pos h0]), ?_⟩
      by_cases hd : d = 0
      · refine .step (succ_mem.2 ⟨i, hi', .inr ?_⟩) hfz
        rw [hmv, hd, do_store0 h0, R.ws]
      · refine .step (t := (f.1, f.2.set i ([(m.2.1, m.2.2)], nt, pos (ms.getD i []) k + 1))) (succ_mem.2 ⟨i, hi', .inr ?_⟩) (.step (succ_mem.2 ⟨i, hi', .inl ?_⟩) hfz)
        · rw [hmv]
          unfold doL
          rw [if_pos h0, if_neg hd, if_pos (show ([] : List (Int × Int)).length < d from Nat.pos_of_ne_zero hd)]
          rfl
        · unfold flushL
          rw [List.getElem?_set_self hl]
          show some (f.1.set m.2.1.toNat m.2.2, (f.2.set i ([(m.2.1, m.2.2)], nt, pos (ms.getD i []) k + 1)).set i ([], nt, pos (ms.getD i []) k + 1)) = _
          rw [List.set_set, R.ws]
    · have e2 : pos (ms.getD i []) k + 1 = pos (ms.getD i []) (k + 1) := by rw [pos_succ h1, if_neg h0]
      unfold doL at h hmv
      rw [if_neg h0] at h hmv
      rw [R.ws] at hmv
      split at h
      · rename_i h3
        rw [if_pos h3] at hmv
        cases h
        exact ⟨_, R.both _ e2, .one (succ_mem.2 ⟨i, hi', .inr hmv⟩)⟩
      · rename_i h3
        rw [if_neg h3] at hmv
        split at h
        · rename_i h4
          rw [if_pos h4, if_pos rfl] at hmv
          cases h
          exact ⟨_, R.both _ e2, .one (succ_mem.2 ⟨i, hi', .inr hmv⟩)⟩
        · rename_i h4
          rw [if_neg h4, if_pos rfl] at hmv
          cases h
          exact ⟨_, R.both _ e2, .one (succ_mem.2 ⟨i, hi', .inr hmv⟩)⟩
theorem unf_rch {d : Nat} {ms : List (List Mv)} {f a a' : LS} (R : FN ms f a) (h : Rch (succL 0 ms) a a') : ∃ f', FN ms f' a' ∧ Rch (succL d (ms.map fence)) f f' := by
  induction h generalizing f with
  | refl => exact ⟨f, R, .refl _⟩
  | step h _ ih =>
    obtain ⟨b, h1, h2⟩ := unf_step (d := d) R h
    obtain ⟨c, h3, h4⟩ := ih h1
    exact ⟨c, h3, h2.trans _ h4⟩
theorem unf_end {ms : List (List Mv)} {f a : LS} (R : FN ms f a) (h : endL ms a = true) : endL (ms.map fence) f = true ∧ rowL f = rowL a := by
  constructor
  · unfold endL
    refine List.all_eq_true.2 fun i hi => ?_
    unfold endI
    cases ht : f.2[i]? with
    | none => rfl
    | some t =>
      have hlt : i < a.2.length := by rw [← R.len]; exact (List.getElem?_eq_some_iff.1 ht).1
      obtain ⟨_, h2⟩ := R.thr i t _ ht (List.getElem?_eq_getElem hlt)
      have h3 := List.all_eq_true.1 h i (by rw [List.length_map] at hi; exact hi)
      unfold endI at h3
      rw [List.getElem?_eq_getElem hlt] at h3
      have h3 := of_decide_eq_true h3
      rw [h2]
      refine decide_eq_true ⟨rfl, ?_⟩
      have h4 : a.2[i].2.2 = (ms.getD i []).length := h3.2
      rw [fence_get]
      show pos (ms.getD i []) a.2[i].2.2 = _
      rw [h4, pos_len]
  · unfold rowL
    rw [R.ws]
    congr 1
    have : f.2.map (fun t => t.2.1) = a.2.map (fun t => t.2.1) := by
      refine List.ext_getElem? fun i => ?_
      rw [List.getElem?_map, List.getElem?_map]
      cases ht : f.2[i]? with
      | none =>
        have : a.2[i]? = none := by rw [List.getElem?_eq_none_iff, ← R.len]; exact List.getElem?_eq_none_iff.1 ht
        rw [this]
      | some t =>
        have hlt : i < a.2.length := by rw [← R.len]; exact (List.getElem?_eq_some_iff.1 ht).1
        rw [List.getElem?_eq_getElem hlt]
        refine congrArg some ?_
        rw [(R.thr i t _ ht (List.getElem?_eq_getElem hlt)).2]
    rw [List.flatMap_def, List.flatMap_def, this]
/-- A first state. -/
def ini (w n : Nat) : LS := (List.replicate w 0, List.replicate n ([], [], 0))
theorem pos_zero (l : List Mv) : pos l 0 = 0 := rfl
theorem ini_thr {w n i : Nat} {t : Thr} (h : (ini w n).2[i]? = some t) : t = ([], [], 0) := by
  have h : (List.replicate n (([], [], 0) : Thr))[i]? = some t := h
  rw [List.getElem?_replicate] at h
  split at h
  · cases h; rfl
  · cases h
/-- With a fence behind each store, what is told is what is told where nothing waits. -/
theorem fence_out (d w : Nat) (ms : List (List Mv)) (r : List Int) : r ∈ outL d (ms.map fence) (ini w ms.length) ↔ r ∈ outL 0 ms (ini w ms.length) := by
  have len_rch : ∀ {s t : LS}, Rch (succL d (ms.map fence)) s t → t.2.length = s.2.length := fun h => by
    induction h with
    | refl => rfl
    | step h _ ih =>
      rw [ih]
      obtain ⟨i, _, h⟩ := succ_mem.1 h
      rcases h with h | h
      · unfold flushL at h
        split at h
        · cases h; exact List.length_set
        · cases h
      · unfold moveL at h
        split at h
        case h_2 => cases h
        split at h
        case h_2 => cases h
        unfold doL at h
        repeat' split at h
        all_goals first
          | (cases h; exact List.length_set)
          | (cases h; done)
  rw [outL_mem, outL_mem]
  constructor
  · rintro ⟨t, h1, h2, h3⟩
    have R : FS ms (ini w ms.length) (ini w ms.length) := ⟨rfl, rfl, fun i x y hx hy => by
      rw [ini_thr hx, ini_thr hy]
      exact .n [] 0 (Nat.zero_le _)⟩
    obtain ⟨a, h4, h5⟩ := fence_rch R h1
    obtain ⟨h6, h7⟩ := fence_end h4 (by rw [len_rch h1]; exact List.length_replicate) h2
    exact ⟨a, h5, h6, by rw [← h7]; exact h3⟩
  · rintro ⟨a, h1, h2, h3⟩
    have R : FN ms (ini w ms.length) (ini w ms.length) := ⟨rfl, rfl, fun i x y hx hy => by
      rw [ini_thr hx, ini_thr hy]
      exact ⟨rfl, rfl⟩⟩
    obtain ⟨f, h4, h5⟩ := unf_rch (d := d) R h1
    obtain ⟨h6, h7⟩ := unf_end h4 h2
    exact ⟨f, h5, h6, by rw [h7]; exact h3⟩
end Go.Eng
namespace Go.Eng
structure MvOk (w : Nat) (m : Mv) : Prop where
  kind : 0 ≤ m.1 ∧ m.1 ≤ 3
  place : 0 ≤ m.2.1 ∧ m.2.1 < w
  val : Dg m.2.2
/-- A test that may be. -/
structure TestOk (w d : Nat) (ms : List (List Mv)) : Prop where
  words : 1 ≤ w ∧ w ≤ 3
  depth : d ≤ 3
  moves : ∀ i, ∀ m ∈ ms.getD i [], MvOk w m
  few : ∀ i, (ms.getD i []).length ≤ 6
structure PutOk (w : Nat) (p : Int × Int) : Prop where
  place : 0 ≤ p.1 ∧ p.1 < w
  val : Dg p.2
/-- A thread that may be. -/
structure OkTh (w d : Nat) (l : List Mv) (t : Thr) : Prop where
  puts : ∀ p ∈ t.1, PutOk w p
  wait : t.1.length ≤ d
  noted : ∀ x ∈ t.2.1, Dg x
  made : t.2.2 ≤ l.length
  few : t.2.1.length ≤ t.2.2
/-- A state that may be. -/
structure OkS (w d : Nat) (ms : List (List Mv)) (s : LS) : Prop where
  wl : s.1.length = w
  wd : ∀ x ∈ s.1, Dg x
  tl : s.2.length = ms.length
  th : ∀ (i : Nat) (t : Thr), s.2[i]? = some t → OkTh w d (ms.getD i []) t
theorem dg_zero : Dg 0 := ⟨by decide, by decide⟩
theorem ok_ini {w d n : Nat} {ms : List (List Mv)} (h : ms.length = n) : OkS w d ms (List.replicate w 0, List.replicate n ([], [], 0)) where
  wl := List.length_replicate
  wd := fun x hx => by
    have := List.eq_of_mem_replicate (show x ∈ List.replicate w (0 : Int) from hx)
    rw [this]; exact dg_zero
  tl := by show (List.replicate n _).length = _; rw [List.length_replicate, h]
  th := fun i t ht => by
    have ht : (List.replicate n (([], [], 0) : Thr))[i]? = some t := ht
    rw [List.getElem?_replicate] at ht
    split at ht
    · cases ht
      exact ⟨by simp, Nat.zero_le _, by simp, Nat.zero_le _, Nat.zero_le _⟩
    · cases ht
theorem OkS.upd {w d : Nat} {ms : List (List Mv)} {s : LS} (h : OkS w d ms s) {ws : List Int} {i : Nat} {t : Thr} (h1 : ws.length = w) (h2 : ∀ x ∈ ws, Dg x) (h3 : OkTh w d (ms.getD i []) t) : OkS w d ms (ws, s.2.set i t) where
  wl := h1
  wd := h2
  tl := by show (s.2.set i t).length = _; rw [List.length_set]; exact h.tl
  th := fun j x hx => by
    have hx : (s.2.set i t)[j]? = some x := hx
    rw [List.getElem?_set] at hx
    by_cases e : i = j
    · subst e
      rw [if_pos rfl] at hx
      by_cases e2 : i < s.2.length
      · rw [if_pos e2] at hx; cases hx; exact h3
      · rw [if_neg e2] at hx; cases hx
    · rw [if_neg e] at hx
      exact h.th j x hx
theorem dg_set {ws : List Int} {a : Nat} {v : Int} (h : ∀ x ∈ ws, Dg x) (hv : Dg v) : ∀ x ∈ ws.set a v, Dg x := fun x hx => by
  rcases List.mem_or_eq_of_mem_set hx with h1 | h1
  · exact h x h1
  · rw [h1]; exact hv
theorem dg_get {ws : List Int} {a : Nat} (h : ∀ x ∈ ws, Dg x) : Dg (ws.getD a 0) := by
  rw [List.getD_eq_getElem?_getD]
  cases e : ws[a]? with
  | none => exact dg_zero
  | some x => exact h x (List.mem_of_getElem? e)
theorem dg_read {w : Nat} {ws : List Int} {b : List (Int × Int)} {a : Int} (h : ∀ x ∈ ws, Dg x) (hb : ∀ p ∈ b, PutOk w p) : Dg (readL ws b a) := by
  unfold readL
  split
  · rename_i p e
    exact (hb p (by simpa using List.mem_of_find?_eq_some e)).val
  · exact dg_get h
theorem ok_flush {w d : Nat} {ms : List (List Mv)} {s t : LS} {i : Nat} (h : OkS w d ms s) (k : flushL s i = some t) : OkS w d ms t := by
  unfold flushL at k
  split at k
  case h_2 => cases k
  rename_i p b nt a e
  cases k
  have ht := h.th i _ e
  refine h.upd (by rw [List.length_set]; exact h.wl) (dg_set h.wd (ht.puts p (by simp)).val) ⟨fun q hq => ht.puts q (by simp [show q ∈ b from hq]), ?_, ht.noted, ht.made, ht.few⟩
  have := ht.wait
  rw [List.length_cons] at this
  show b.length ≤ d
  omega
theorem ok_move {w d : Nat} {ms : List (List Mv)} {s t : LS} {i : Nat} (hm : ∀ i, ∀ m ∈ ms.getD i [], MvOk w m) (h : OkS w d ms s) (k : moveL d ms s i = some t) : OkS w d ms t := by
  unfold moveL at k
  split at k
  case h_2 => cases k
  rename_i b nt a e
  split at k
  case h_2 => cases k
  rename_i m em
  have ht := h.th i _ e
  have ha : a + 1 ≤ (ms.getD i []).length := (List.getElem?_eq_some_iff.1 em).1
  have mo := hm i m (List.mem_of_getElem? em)
  have hf : nt.length ≤ a + 1 := Nat.le_trans ht.few (Nat.le_succ a)
  have hf1 : ∀ v : Int, (nt ++ [v]).length ≤ a + 1 := fun v => by
    rw [List.length_append]
    exact Nat.succ_le_succ ht.few
  have hn1 : ∀ v : Int, Dg v → ∀ x ∈ nt ++ [v], Dg x := fun v hv x hx => by
    rcases List.mem_append.1 hx with hx | hx
    · exact ht.noted x hx
    · rw [List.mem_singleton] at hx; rw [hx]; exact hv
  unfold doL at k
  split at k
  · split at k
    · cases k
      exact h.upd (by rw [List.length_set]; exact h.wl) (dg_set h.wd mo.val) ⟨ht.puts, ht.wait, ht.noted, ha, hf⟩
    · split at k
      · rename_i hlt
        cases k
        refine h.upd h.wl h.wd ⟨fun q hq => ?_, ?_, ht.noted, ha, hf⟩
        · rcases List.mem_append.1 hq with hq | hq
          · exact ht.puts q hq
          · rw [List.mem_singleton] at hq; rw [hq]; exact ⟨mo.place, mo.val⟩
        · show (b ++ [_]).length ≤ d
          rw [List.length_append]
          exact hlt
      · cases k
  · split at k
    · cases k
      exact h.upd h.wl h.wd ⟨ht.puts, ht.wait, hn1 _ (dg_read h.wd ht.puts), ha, hf1 _⟩
    · split at k
      · split at k
        · rename_i hb
          cases k
          exact h.upd h.wl h.wd ⟨ht.puts, ht.wait, ht.noted, ha, hf⟩
        · cases k
      · split at k
        · rename_i hb
          cases k
          exact h.upd (by rw [List.length_set]; exact h.wl) (dg_set h.wd mo.val) ⟨ht.puts, ht.wait, hn1 _ (dg_get h.wd), ha, hf1 _⟩
        · cases k
/-- Of states that may be, each has a text of its own. -/
theorem ok_thr {w d : Nat} {ms : List (List Mv)} {s : LS} (T : TestOk w d ms) (h : OkS w d ms s) : ∀ t ∈ s.2, ThrOk t := fun t ht => by
  obtain ⟨i, hi, e⟩ := List.getElem_of_mem ht
  have o := h.th i t (by rw [List.getElem?_eq_getElem hi, e])
  have hw := T.words.2
  refine ⟨fun x hx => ?_, fun x hx => ?_⟩
  · obtain ⟨p, hp, hx⟩ := List.mem_flatMap.1 hx
    have hp := o.puts p hp
    have h1 := hp.place
    rcases List.mem_cons.1 hx with rfl | hx
    · exact ⟨h1.1, by omega⟩
    · rw [List.mem_singleton] at hx; rw [hx]; exact hp.val
  · rcases List.mem_append.1 hx with hx | hx
    · exact o.noted x hx
    · rw [List.mem_singleton] at hx
      have h1 := o.made
      have h2 := T.few i
      subst hx
      exact ⟨by omega, by omega⟩
theorem ok_key {w d : Nat} {ms : List (List Mv)} {s t : LS} (T : TestOk w d ms) (h : OkS w d ms s) (k : OkS w d ms t) (e : keyL s.1 s.2 = keyL t.1 t.2) : s = t := by
  obtain ⟨e1, e2⟩ := key_inj h.wd k.wd (ok_thr T h) (ok_thr T k) e
  exact Prod.ext e1 e2
end Go.Eng
