/- A part of the walks, and of the machine that proves them (StPl). -/
import Derived.Test.YtgahcoccodhkmaaGreatStY
import Derived.Test.YtgahcoccodhkmaaGreatTsB
set_option linter.unusedVariables false
set_option linter.unusedSimpArgs false
namespace Go.Eng
open Go Go.Proofs
theorem z0 : (0 : Int) ≤ 0 ∧ (0 : Int) ≤ 16 := by decide
theorem z1 : (0 : Int) ≤ 1 ∧ (1 : Int) ≤ 16 := by decide
theorem z3 : (0 : Int) ≤ 3 ∧ (3 : Int) ≤ 16 := by decide
theorem z7 : (0 : Int) ≤ 7 ∧ (7 : Int) ≤ 16 := by decide
theorem z8 : (0 : Int) ≤ 8 ∧ (8 : Int) ≤ 16 := by decide
theorem z9 : (0 : Int) ≤ 9 ∧ (9 : Int) ≤ 16 := by decide
theorem z10 : (0 : Int) ≤ 10 ∧ (10 : Int) ≤ 16 := by decide
theorem z13 : (0 : Int) ≤ 13 ∧ (13 : Int) ≤ 16 := by decide
theorem useF_e (ws ts : List Int) (a : Int) : 0 ≤ useF ws ts a ∧ useF ws ts a ≤ 16 := by
  unfold useF whyF
  repeat' split
  all_goals omega
theorem loadF_e (ws ts : List Int) (a : Int) : 0 ≤ (loadF ws ts a).2 ∧ (loadF ws ts a).2 ≤ 16 := by
  have h := useF_e ws ts a
  unfold loadF
  split
  · (first | exact z0 | exact z1 | exact z3 | exact z7 | exact z8 | exact z9 | exact z10 | exact z13)
  · exact h
theorem storeF_e (ws ts : List Int) (a v : Int) : 0 ≤ (storeF ws ts a v).2 ∧ (storeF ws ts a v).2 ≤ 16 := by
  have h := useF_e ws ts a
  unfold storeF
  split
  · (first | exact z0 | exact z1 | exact z3 | exact z7 | exact z8 | exact z9 | exact z10 | exact z13)
  · exact h
theorem loadT_e (t : Tso) (i a : Int) : 0 ≤ (loadT t i a).2 ∧ (loadT t i a).2 ≤ 16 := by
  have h := loadF_e t.1 t.2.1 a
  unfold loadT
  split
  · split
    · (first | exact z0 | exact z1 | exact z3 | exact z7 | exact z8 | exact z9 | exact z10 | exact z13)
    · exact h
  · (first | exact z0 | exact z1 | exact z3 | exact z7 | exact z8 | exact z9 | exact z10 | exact z13)
theorem storeT_e (t : Tso) (i a v : Int) : 0 ≤ (storeT t i a v).2 ∧ (storeT t i a v).2 ≤ 16 := by
  have h := storeF_e t.1 t.2.1 a v
  have hp := push_cases (t.2.2.2.getD i.toNat default) t.2.2.1 (a, v)
  unfold storeT
  split
  · split
    · split
      · (first | exact z0 | exact z1 | exact z3 | exact z7 | exact z8 | exact z9 | exact z10 | exact z13)
      · split
        · (first | exact z0 | exact z1 | exact z3 | exact z7 | exact z8 | exact z9 | exact z10 | exact z13)
        · rcases hp with ⟨_, e⟩ | ⟨_, e⟩ | ⟨_, e⟩ <;> rw [e] <;> (first | exact z0 | exact z1 | exact z3 | exact z7 | exact z8 | exact z9 | exact z10 | exact z13)
    · exact h
  · (first | exact z0 | exact z1 | exact z3 | exact z7 | exact z8 | exact z9 | exact z10 | exact z13)
theorem lockT_e (t : Tso) (i k a x y : Int) : 0 ≤ (lockT t i k a x y).2.2 ∧ (lockT t i k a x y).2.2 ≤ 16 := by
  have h := loadF_e t.1 t.2.1 a
  unfold lockT
  split
  · split
    · (first | exact z0 | exact z1 | exact z3 | exact z7 | exact z8 | exact z9 | exact z10 | exact z13)
    · split
      · (first | exact z0 | exact z1 | exact z3 | exact z7 | exact z8 | exact z9 | exact z10 | exact z13)
      · exact h
  · (first | exact z0 | exact z1 | exact z3 | exact z7 | exact z8 | exact z9 | exact z10 | exact z13)
theorem markE_e (tag t : Int) : 0 ≤ markE tag t ∧ markE tag t ≤ 16 := by
  unfold markE whyF
  repeat' split
  all_goals omega
theorem markN_e (tag : Int) : ∀ (n : Nat) (ts : List Int) (p : Nat), 0 ≤ (markN tag ts p n).2 ∧ (markN tag ts p n).2 ≤ 16
  | 0, _, _ => z0
  | n + 1, ts, p => by
    rw [markN]
    split
    · exact markN_e tag n _ _
    · exact markE_e _ _
theorem markF_e (ws ts : List Int) (a n tag : Int) : 0 ≤ (markF ws ts a n tag).2 ∧ (markF ws ts a n tag).2 ≤ 16 := by
  have h := markN_e tag n.toNat ts a.toNat
  unfold markF
  split
  · split
    · (first | exact z0 | exact z1 | exact z3 | exact z7 | exact z8 | exact z9 | exact z10 | exact z13)
    · split
      · (first | exact z0 | exact z1 | exact z3 | exact z7 | exact z8 | exact z9 | exact z10 | exact z13)
      · exact h
  · (first | exact z0 | exact z1 | exact z3 | exact z7 | exact z8 | exact z9 | exact z10 | exact z13)
theorem apF_e (t : Th) (s op a b c : Int) : 0 ≤ (apF t s op a b c).2 ∧ (apF t s op a b c).2 ≤ 16 := by
  unfold apF applyF callF backF
  repeat' split
  all_goals (first | exact z0 | exact z1 | exact z3 | exact z7 | exact z8 | exact z9 | exact z10 | exact z13)
theorem workX_e (w : Wd) (i : Int) (t : Th) (x : Ins) : 0 ≤ (workX w i t x).2 ∧ (workX w i t x).2 ≤ 16 := by
  have key : ∀ (c : Prop) [Decidable c] (p q : (Wd × Th) × Int), (0 ≤ p.2 ∧ p.2 ≤ 16) → (0 ≤ q.2 ∧ q.2 ≤ 16) → (0 ≤ (if c then p else q).2 ∧ (if c then p else q).2 ≤ 16) := fun c _ p q h1 h2 => by split <;> assumption
  unfold workX
  refine key _ _ _ (apF_e ..) (key _ _ _ z0 (key _ _ _ (loadT_e ..) (key _ _ _ (storeT_e ..) (key _ _ _ (lockT_e ..) (key _ _ _ (lockT_e ..) (key _ _ _ (lockT_e ..) (key _ _ _ z0
    (key _ _ _ (markF_e ..) (key _ _ _ (markF_e ..) (key _ _ _ z0 (key _ _ _ z3 z0)))))))))))
theorem thR_next {t : Th} (h : thR t = true) (hp : t.pc < 1000) : thR (nextT t) = true := by
  have h0 := placeF_iff.1 (thR_iff.1 h).1
  exact thR_of h (placeF_iff.2 (by show 0 ≤ t.pc + 1 ∧ t.pc + 1 ≤ 1000; omega)) rfl rfl rfl rfl
theorem thR_setRg {t : Th} {k v : Int} (h : thR t = true) : thR (setRg t k v) = true := thR_of h (thR_iff.1 h).1 rfl rfl rfl rfl
theorem thR_fault {t : Th} {e : Int} (h : thR t = true) (he : 1 ≤ e ∧ e ≤ 16) : thR (faultT t e) = true := by
  obtain ⟨a, b, c, d, f, g⟩ := thR_iff.1 h
  exact thR_iff.2 ⟨a, b, c, d, f, stF_iff.2 (.inr ⟨rfl, he⟩)⟩
theorem thR_halt {t : Th} (h : thR t = true) (hs : t.st = 0) : thR (stT t 1) = true := by
  obtain ⟨a, b, c, d, f, g⟩ := thR_iff.1 h
  refine thR_iff.2 ⟨a, b, c, d, f, stF_iff.2 (.inl ⟨.inr rfl, ?_⟩)⟩
  have := stF_iff.1 g
  show t.fa = 0
  omega
theorem thR_left {t : Th} {lf : List Int} (h : thR t = true) (hl : lf.length ≤ 8) (hb : lf.any badN = false) : thR (leftT t lf) = true := by
  obtain ⟨a, b, c, d, f, g⟩ := thR_iff.1 h
  exact thR_iff.2 ⟨a, b, hl, d, hb, g⟩
theorem thR_pc {t : Th} {p : Int} (h : thR t = true) (hp : 0 ≤ p ∧ p ≤ 1000) : thR (setPc t p) = true := thR_of h (placeF_iff.2 hp) rfl rfl rfl rfl
theorem getD_setT {l : List Th} {i j : Nat} {b : Th} (hi : i < l.length) : (l.set i b).getD j default = if i = j then b else l.getD j default := by
  simp only [List.getD_eq_getElem?_getD]
  by_cases e : i = j
  · subst e; rw [List.getElem?_set_self hi, if_pos rfl]; rfl
  · rw [List.getElem?_set_ne e, if_neg e]
theorem withT_get {l : List Th} {i : Int} {t : Th} (hi : 0 ≤ i ∧ i < l.length) : (withT l i t).getD i.toNat default = t := withT_at (by omega) (by omega)
/-- What a step keeps of a world. -/
structure Keeps (w : Wd) (i : Int) (w' : Wd) : Prop where
  r : worldR w' = true
  code : w'.code = w.code
  n : w'.th.length = w.th.length
  ln : w'.l.length = w.l.length
  th : ∀ k : Nat, ¬ (k : Int) = i → w'.th.getD k default = w.th.getD k default
  l : ∀ k : Nat, ¬ (k : Int) = i → w'.l.getD k default = w.l.getD k default
  ev : ∃ e, w'.ev = w.ev ++ e ∧ e.length ≤ 1
theorem worldR_mk {w : Wd} {t : Tso} {th : List Th} {ev : List Ev} (h : worldR w = true) (ht : tsoR t.1 t.2.1 t.2.2.1 t.2.2.2 = true) (hl : t.2.2.2.length = w.l.length) (hn : th.length = w.th.length)
    (hth : ∀ k, k < w.th.length → okTh w.th.length (th.getD k default) = true) : worldR ⟨w.code, t.1, t.2.1, t.2.2.1, t.2.2.2, th, ev⟩ = true := by
  obtain ⟨h1, h2, h3, h4⟩ := worldR_iff.1 h
  refine worldR_iff.2 ⟨h1, ht, ?_, fun k hk => ?_⟩
  · show th.length = t.2.2.2.length
    omega
  · show okTh th.length (th.getD k default) = true
    rw [hn]; exact hth k (hn ▸ hk)
theorem keeps_mk {w : Wd} {i : Int} {t : Tso} {u : Th} {e : List Ev} (ho : WOk w i) (ht : tsoR t.1 t.2.1 t.2.2.1 t.2.2.2 = true) (hl : t.2.2.2.length = w.l.length) (hk : ∀ k : Nat, ¬ (k : Int) = i → t.2.2.2.getD k default = w.l.getD k default)
    (hu : thR u = true) (hf : u.lf.length = 0 ∨ u.lf.length = w.th.length) (he : e.length ≤ 1) : Keeps w i ⟨w.code, t.1, t.2.1, t.2.2.1, t.2.2.2, withT w.th i u, w.ev ++ e⟩ where
  r := worldR_mk ho.r ht hl (withT_len _ _ _) fun k hk => by
    by_cases h : (k : Int) = i
    · rw [withT_at hk h]; exact okTh_iff.2 ⟨hu, hf⟩
    · rw [withT_ne h]; exact (worldR_iff.1 ho.r).2.2.2 k hk
  code := rfl
  n := withT_len _ _ _
  ln := hl
  th := fun k h => withT_ne h
  l := hk
  ev := ⟨e, rfl, he⟩
/-- A step that only changes the thread. -/
theorem keeps_th {w : Wd} {i : Int} {u : Th} (ho : WOk w i) (hu : thR u = true) (hf : u.lf.length = 0 ∨ u.lf.length = w.th.length) : Keeps w i (putW w i u) := by
  have := keeps_mk (t := tsoOf w) (e := []) ho (worldR_iff.1 ho.r).2.1 rfl (fun _ _ => rfl) hu hf (Nat.zero_le _)
  have e : putW w i u = ⟨w.code, (tsoOf w).1, (tsoOf w).2.1, (tsoOf w).2.2.1, (tsoOf w).2.2.2, withT w.th i u, w.ev ++ []⟩ := by rw [List.append_nil]; rfl
  rw [e]; exact this
theorem keeps_tso {w : Wd} {i : Int} {t : Tso} {u : Th} (ho : WOk w i) (ht : tsoR t.1 t.2.1 t.2.2.1 t.2.2.2 = true) (hl : t.2.2.2.length = w.l.length) (hk : ∀ k : Nat, ¬ (k : Int) = i → t.2.2.2.getD k default = w.l.getD k default)
    (hu : thR u = true) (hf : u.lf.length = 0 ∨ u.lf.length = w.th.length) : Keeps w i (putW (setM w t) i u) := by
  have := keeps_mk (e := []) ho ht hl hk hu hf (Nat.zero_le _)
  have e : putW (setM w t) i u = ⟨w.code, t.1, t.2.1, t.2.2.1, t.2.2.2, withT w.th i u, w.ev ++ []⟩ := by rw [List.append_nil]; rfl
  rw [e]; exact this
theorem lockT_keeps {t : Tso} {i k a x y : Int} (h : (lockT t i k a x y).2.2 = 0) : tsoR (lockT t i k a x y).1.1 (lockT t i k a x y).1.2.1 (lockT t i k a x y).1.2.2.1 (lockT t i k a x y).1.2.2.2 = true ∧ (lockT t i k a x y).1.2.2.2 = t.2.2.2 := by
  obtain ⟨ws, ts, d, l⟩ := t
  by_cases hh : hasF ws ts d l i = true ∧ 0 ≤ k ∧ k < 3
  · by_cases h9 : 0 < (l.getD i.toNat default).length
    · have e : lockT (ws, ts, d, l) i k a x y = (tso0, 0, 9) := by unfold lockT; rw [if_pos hh, if_pos h9]
      rw [e] at h; exact absurd h (by decide)
    · by_cases hl : (loadF ws ts a).2 = 0
      · have hu : useF ws ts a = 0 := by rw [loadF_use] at hl; exact hl
        have e : lockT (ws, ts, d, l) i k a x y = ((ws.set a.toNat (becF k (loadF ws ts a).1 x y), ts, d, l), (loadF ws ts a).1, 0) := by
          unfold lockT; rw [if_pos hh, if_neg h9, if_pos hl]
          simp only [storeF_go hu]
        rw [e]
        exact ⟨tsoR_ws (hasF_iff.1 hh.1).1 (memR_set hu) (by simp), rfl⟩
      · have e : lockT (ws, ts, d, l) i k a x y = (tso0, 0, (loadF ws ts a).2) := by unfold lockT; rw [if_pos hh, if_neg h9, if_neg hl]
        rw [e] at h; exact absurd h hl
  · have e : lockT (ws, ts, d, l) i k a x y = (tso0, 0, 1) := if_neg hh
    rw [e] at h; exact absurd h (by decide)
theorem tsoR_mark {ws ts : List Int} {d : Int} {l : List (List Put)} {a n tag : Int} (hr : tsoR ws ts d l = true) (h : (markF ws ts a n tag).2 = 0) : tsoR (markF ws ts a n tag).1.1 (markF ws ts a n tag).1.2 d l = true := by
  have hm := markF_inv h
  rw [markF_ok hm]
  obtain ⟨_, h2, h3⟩ := tsoR_iff.1 hr
  have := hm.hl; have := hm.hb; have := hm.ha; have := hm.hn
  exact tsoR_iff.2 ⟨memR_setR hm.hm hm.htag (by omega), h2, h3⟩
theorem waits_ok {w : Wd} (h : worldR w = true) : (waits w).length = w.l.length ∧ (waits w).any badN = false := by
  have hlen := world_len h
  refine ⟨List.length_map _, ?_⟩
  rw [List.any_eq_false]
  intro x hx
  obtain ⟨b, hb, rfl⟩ := List.mem_map.1 hx
  obtain ⟨k, hk, rfl⟩ := List.getElem_of_mem hb
  have := (tsoR_iff.1 (worldR_iff.1 h).2.1).2.2 k hk
  rw [List.getD_eq_getElem?_getD, List.getElem?_eq_getElem hk] at this
  simp only [okB, Bool.and_eq_true, decide_eq_true_eq, Option.getD_some] at this
  unfold badN
  simp only [decide_eq_true_eq]
  omega
theorem step_keeps {w : Wd} {i : Int} (ho : WOk w i) (hst : (thOf w i).st = 0) : Keeps w i (stepF w i) := by
  rw [step_work ho hst]
  have hth := ho.th
  have hlf := ho.lf
  have hlen := world_len ho.r
  have hpc := ho.pc
  have hcl := ho.code
  have hr := (worldR_iff.1 ho.r).2.1
  have hF := ho.hasF
  obtain ⟨t, ht⟩ : ∃ t, thOf w i = t := ⟨_, rfl⟩
  obtain ⟨op, a, b, c, hx⟩ : ∃ op a b c, insOr w t = (op, a, b, c) := ⟨_, _, _, _, rfl⟩
  rw [ht] at hst hth hlf hpc ⊢
  rw [hx]
  have hE := workX_e w i t (op, a, b, c)
  by_cases he : (workX w i t (op, a, b, c)).2 = 0
  · rw [workF_ok he]
    have hp : t.pc < 1000 := by
      by_cases h : t.pc < (w.code.length : Int)
      · omega
      · rw [insOr_end h] at hx
        cases hx
        exact absurd he (by show ¬ (3 : Int) = 0; decide)
    have hop : 0 ≤ op ∧ op ≤ 27 := by
      by_cases h : t.pc < (w.code.length : Int)
      · have := ho.ins (ht.symm ▸ h)
        rw [ht] at this
        rw [insOr_in h] at hx
        rw [hx] at this
        have := (insR_at this).1
        omega
      · rw [insOr_end h] at hx
        cases hx
        decide
    have hc : (1 ≤ op ∧ op ≤ 15) ∨ op = 0 ∨ op = 16 ∨ op = 17 ∨ op = 18 ∨ op = 19 ∨ op = 20 ∨ op = 21 ∨ op = 22 ∨ op = 23 ∨ op = 24 ∨ op = 25 ∨ op = 26 ∨ op = 27 := by omega
    rcases hc with hl | rfl | rfl | rfl | rfl | rfl | rfl | rfl | rfl | rfl | rfl | rfl | rfl | rfl
    · have e : workX w i t (op, a, b, c) = ((w, (apX i t (op, a, b, c)).1), (apX i t (op, a, b, c)).2) := if_pos hl
      rw [e] at he ⊢
      obtain ⟨k1, k2, k3, k4⟩ := ap_keeps (Prod.ext (x := apF t i op a b c) (y := ((apF t i op a b c).1, 0)) rfl he)
      exact keeps_th ho k1 (by rw [k4]; exact hlf)
    · exact keeps_th ho (thR_halt hth hst) hlf
    · exact keeps_th ho (thR_setRg (thR_next hth hp)) hlf
    · obtain ⟨h1, h2, h3⟩ := store_cases (ws := w.ws) (ts := w.ts) (d := w.d) (l := w.l) (i := i) (a := atOf t (17, a, b, c)) (v := getR t a) he
      obtain ⟨u1, u2, u3, u4⟩ := useF_ok.1 h2
      have hi := hasF_iff.1 h1
      have hok := (tsoR_iff.1 hr).2.2 i.toNat (by omega)
      show Keeps w i (putW (setM w (storeT (tsoOf w) i (atOf t (17, a, b, c)) (getR t a)).1) i (nextT t))
      rcases h3 with ⟨hd, e⟩ | ⟨hd, hlt, e⟩
      · show Keeps w i (putW (setM w (storeT (w.ws, w.ts, w.d, w.l) i (atOf t (17, a, b, c)) (getR t a)).1) i (nextT t))
        rw [e]
        exact keeps_tso ho (tsoR_ws hr (memR_set h2) (by simp)) rfl (fun _ _ => rfl) (thR_next hth hp) hlf
      · show Keeps w i (putW (setM w (storeT (w.ws, w.ts, w.d, w.l) i (atOf t (17, a, b, c)) (getR t a)).1) i (nextT t))
        rw [e]
        refine keeps_tso ho (tsoR_set hr (by omega) (okB_snoc hok hlt ⟨u2, u3⟩)) List.length_set (fun k hk => ?_) (thR_next hth hp) hlf
        show (w.l.set i.toNat _).getD k default = _
        rw [getD_setB (by omega), if_neg (by omega)]
    · exact keeps_th ho (thR_next hth hp) hlf
    · obtain ⟨k1, k2⟩ := lockT_keeps he
      exact keeps_tso ho k1 (congrArg List.length k2) (fun k _ => congrArg (fun l => l.getD k default) k2) (thR_setRg (thR_next hth hp)) hlf
    · obtain ⟨k1, k2⟩ := lockT_keeps he
      exact keeps_tso ho k1 (congrArg List.length k2) (fun k _ => congrArg (fun l => l.getD k default) k2) (thR_setRg (thR_next hth hp)) hlf
    · obtain ⟨k1, k2⟩ := lockT_keeps he
      exact keeps_tso ho k1 (congrArg List.length k2) (fun k _ => congrArg (fun l => l.getD k default) k2) (thR_setRg (thR_next hth hp)) hlf
    · show Keeps w i (putW w i (broadT w (nextT t)))
      unfold broadT
      obtain ⟨w1, w2⟩ := waits_ok ho.r
      have hn := thR_next hth hp
      split
      · exact keeps_th ho (thR_left hn (Nat.zero_le _) rfl) (.inl rfl)
      · have hpc' : 0 ≤ IntKind.i64.wrap ((nextT t).pc - 1) ∧ IntKind.i64.wrap ((nextT t).pc - 1) ≤ 1000 := by
          show 0 ≤ IntKind.i64.wrap (t.pc + 1 - 1) ∧ IntKind.i64.wrap (t.pc + 1 - 1) ≤ 1000
          rw [wrap_i64 (by omega)]; omega
        exact keeps_th ho (thR_left (thR_pc hn hpc') (by omega) w2) (.inr (by show (waits w).length = _; omega))
    · exact keeps_th ho (thR_next hth hp) hlf
    · exact keeps_tso (t := ((mkT w t (24, a, b, c) 1).1.1, (mkT w t (24, a, b, c) 1).1.2, w.d, w.l)) ho (tsoR_mark hr he) rfl (fun _ _ => rfl) (thR_next hth hp) hlf
    · exact keeps_tso (t := ((mkT w t (25, a, b, c) 2).1.1, (mkT w t (25, a, b, c) 2).1.2, w.d, w.l)) ho (tsoR_mark hr he) rfl (fun _ _ => rfl) (thR_next hth hp) hlf
    · exact keeps_mk (t := tsoOf w) (e := [evOf i t (26, a, b, c)]) ho hr rfl (fun _ _ => rfl) (thR_next hth hp) hlf (Nat.le_refl _)
    · exact absurd he (by show ¬ (3 : Int) = 0; decide)
  · rw [workF_bad he]
    exact keeps_th ho (thR_fault hth (by omega)) hlf
/-- What a flush keeps of a world. -/
structure Flushed (w : Wd) (i : Int) (w' : Wd) : Prop where
  r : worldR w' = true
  code : w'.code = w.code
  n : w'.th.length = w.th.length
  ln : w'.l.length = w.l.length
  ev : w'.ev = w.ev
  pc : ∀ k, (w'.th.getD k default).pc = (w.th.getD k default).pc
  rg : ∀ k j, getR (w'.th.getD k default) j = getR (w.th.getD k default) j
  st : ∀ k, ((w'.th.getD k default).st = (w.th.getD k default).st ∧ (w'.th.getD k default).fa = (w.th.getD k default).fa) ∨ (¬ (w.th.getD k default).st = 2 ∧ (w'.th.getD k default).st = 2)
  lf : ∀ k, (w'.th.getD k default).lf = if 0 < (w.th.getD k default).lf.length then (w.th.getD k default).lf.set i.toNat (decF ((w.th.getD k default).lf.getD i.toNat default)) else []
  l : ∀ k : Nat, w'.l.getD k default = if (k : Int) = i then (w.l.getD k default).drop 1 else w.l.getD k default
theorem decF_le {x : Int} (h : 0 ≤ x ∧ x ≤ 8) : 0 ≤ decF x ∧ decF x ≤ 8 := by unfold decF; split <;> omega
theorem thR_less {i : Int} {t : Th} (h : thR t = true) (hj : ∀ j, 0 ≤ t.lf.getD j default ∧ t.lf.getD j default ≤ 8) : thR (lessT i t) = true := by
  unfold lessT
  split
  · obtain ⟨a, b, c, d, f, g⟩ := thR_iff.1 h
    refine thR_left h (by rw [List.length_set]; exact c) ?_
    rw [List.any_eq_false]
    intro x hx
    rcases List.mem_or_eq_of_mem_set hx with hx | rfl
    · exact List.any_eq_false.1 f x hx
    · have := decF_le (hj i.toNat)
      unfold badN
      simp only [decide_eq_true_eq]
      omega
  · exact h
theorem lessT_len (i : Int) (t : Th) : (lessT i t).lf.length = t.lf.length := by
  unfold lessT
  split
  · show (t.lf.set _ _).length = _
    rw [List.length_set]
  · rfl
theorem lessT_same (i : Int) (t : Th) : (lessT i t).pc = t.pc ∧ (∀ j, getR (lessT i t) j = getR t j) ∧ (lessT i t).st = t.st ∧ (lessT i t).fa = t.fa ∧ (lessT i t).lf = if 0 < t.lf.length then t.lf.set i.toNat (decF (t.lf.getD i.toNat default)) else [] := by
  unfold lessT
  split
  · exact ⟨rfl, fun _ => rfl, rfl, rfl, rfl⟩
  · exact ⟨rfl, fun _ => rfl, rfl, rfl, List.eq_nil_of_length_eq_zero (by omega)⟩
theorem drop_worldR {w : Wd} {i : Int} (ho : WOk w i) : tsoR w.ws w.ts w.d (w.l.set i.toNat ((w.l.getD i.toNat default).drop 1)) = true := by
  have hlen := world_len ho.r
  have hh := ho.h
  have hr := (worldR_iff.1 ho.r).2.1
  have hok := (tsoR_iff.1 hr).2.2 i.toNat (by omega)
  refine tsoR_set hr (by omega) ?_
  simp only [okB, Bool.and_eq_true, decide_eq_true_eq, Bool.not_eq_true'] at hok ⊢
  refine ⟨by rw [List.length_drop]; omega, ?_⟩
  rw [List.any_eq_false] at *
  exact fun x hx => hok.2 x (List.mem_of_mem_drop hx)
theorem mid_keeps {w : Wd} {i : Int} (ho : WOk w i) (m : Wd) (hm : m = midF w i) : worldR m = true ∧ m.code = w.code ∧ m.th.length = w.th.length ∧ m.l = w.l.set i.toNat ((w.l.getD i.toNat default).drop 1) ∧ m.ev = w.ev ∧
    (∀ k, m.th.getD k default = w.th.getD k default ∨ (¬ (w.th.getD k default).st = 2 ∧ ∃ e, m.th.getD k default = faultT (w.th.getD k default) e)) := by
  have hd := drop_worldR ho
  have hlen := world_len ho.r
  have hh := ho.h
  have hr := (worldR_iff.1 ho.r).2.1
  have hE := storeF_e w.ws w.ts (oldest w i).1 (oldest w i).2
  have hsL : (w.l.set i.toNat ((w.l.getD i.toNat default).drop 1)).length = w.l.length := List.length_set
  by_cases hs : (stOf w i).2 = 0
  · have hu : useF w.ws w.ts (oldest w i).1 = 0 := by
      by_cases hu : useF w.ws w.ts (oldest w i).1 = 0
      · exact hu
      · have hs : (storeF w.ws w.ts (oldest w i).1 (oldest w i).2).2 = 0 := hs
        rw [storeF_no hu] at hs; exact absurd hs hu
    have e : midF w i = setMem (dropW w i) (w.ws.set (oldest w i).1.toNat (oldest w i).2, w.ts) := by
      unfold midF; rw [if_pos hs]
      show setMem (dropW w i) (storeF w.ws w.ts (oldest w i).1 (oldest w i).2).1 = _
      rw [storeF_go hu]
    rw [hm, e]
    refine ⟨worldR_mk (w := w) (t := (w.ws.set (oldest w i).1.toNat (oldest w i).2, w.ts, w.d, w.l.set i.toNat ((w.l.getD i.toNat default).drop 1))) ho.r (tsoR_ws hd (memR_set hu) (by simp)) hsL rfl fun k hk => (worldR_iff.1 ho.r).2.2.2 k hk, rfl, rfl, rfl, rfl, fun k => .inl rfl⟩
  · have e0 : midF w i = if ¬ (thOf w i).st = 2 then putW (dropW w i) i (faultT (thOf w i) (stOf w i).2) else dropW w i := if_neg hs
    by_cases hst : (thOf w i).st = 2
    · have e : midF w i = dropW w i := by rw [e0, if_neg (fun h => h hst)]
      rw [hm, e]
      exact ⟨worldR_mk (w := w) (t := (w.ws, w.ts, w.d, w.l.set i.toNat ((w.l.getD i.toNat default).drop 1))) ho.r hd hsL rfl fun k hk => (worldR_iff.1 ho.r).2.2.2 k hk, rfl, rfl, rfl, rfl, fun k => .inl rfl⟩
    · have e : midF w i = putW (dropW w i) i (faultT (thOf w i) (stOf w i).2) := by rw [e0, if_pos hst]
      rw [hm, e]
      have hf : thR (faultT (thOf w i) (stOf w i).2) = true := thR_fault ho.th (by
        have hE : 0 ≤ (stOf w i).2 ∧ (stOf w i).2 ≤ 16 := hE
        omega)
      refine ⟨worldR_mk (w := w) (t := (w.ws, w.ts, w.d, w.l.set i.toNat ((w.l.getD i.toNat default).drop 1))) ho.r hd hsL (withT_len _ _ _) fun k hk => ?_, rfl, withT_len _ _ _, rfl, rfl, fun k => ?_⟩
      · by_cases h : (k : Int) = i
        · show okTh _ ((withT w.th i _).getD k default) = true
          rw [withT_at hk h]; exact okTh_iff.2 ⟨hf, ho.lf⟩
        · show okTh _ ((withT w.th i _).getD k default) = true
          rw [withT_ne h]; exact (worldR_iff.1 ho.r).2.2.2 k hk
      · by_cases h : (k : Int) = i
        · right
          have hk : k = i.toNat := by omega
          subst hk
          exact ⟨hst, _, withT_get hh⟩
        · left; exact withT_ne h
theorem flush_keeps {w : Wd} {i : Int} (ho : WOk w i) : Flushed w i (flushF w i) := by
  obtain ⟨m, hm⟩ : ∃ m, m = midF w i := ⟨_, rfl⟩
  obtain ⟨h1, h2, h3, h4, h5, h6⟩ := mid_keeps ho m hm
  have hlen := world_len ho.r
  have hlm := world_len h1
  have hh := ho.h
  have hleft := left_of h1
  have e : flushF w i = thsW m (m.th.map (lessT i)) := by unfold flushF; rw [← hm]
  have hlf : ∀ k, (m.th.getD k default).lf = (w.th.getD k default).lf := fun k => by
    rcases h6 k with h | ⟨_, _, h⟩ <;> rw [h] <;> rfl
  have hget : ∀ k, (m.th.map (lessT i)).getD k default = lessT i (m.th.getD k default) := fun k => by
    rw [List.getD_eq_getElem?_getD, List.getElem?_map, List.getD_eq_getElem?_getD]
    by_cases hk : k < m.th.length
    · rw [List.getElem?_eq_getElem hk]; rfl
    · rw [List.getElem?_eq_none (by omega)]; rfl
  rw [e]
  refine ⟨worldR_mk (t := tsoOf m) h1 (worldR_iff.1 h1).2.1 rfl (List.length_map _) fun k hk => ?_, h2, ?_, ?_, h5, fun k => ?_, fun k j => ?_, fun k => ?_, fun k => ?_, fun k => ?_⟩
  · rw [hget k]
    obtain ⟨o1, o2⟩ := okTh_iff.1 ((worldR_iff.1 h1).2.2.2 k hk)
    exact okTh_iff.2 ⟨thR_less o1 (hleft k).2, by rw [lessT_len]; exact o2⟩
  · show (m.th.map (lessT i)).length = _
    rw [List.length_map]; exact h3
  · show m.l.length = _
    rw [h4, List.length_set]
  · show ((m.th.map (lessT i)).getD k default).pc = _
    rw [hget k, (lessT_same _ _).1]
    rcases h6 k with h | ⟨_, _, h⟩ <;> rw [h] <;> rfl
  · show getR ((m.th.map (lessT i)).getD k default) j = _
    rw [hget k, (lessT_same _ _).2.1]
    rcases h6 k with h | ⟨_, _, h⟩ <;> rw [h] <;> rfl
  · show (((m.th.map (lessT i)).getD k default).st = _ ∧ ((m.th.map (lessT i)).getD k default).fa = _) ∨ _ ∧ ((m.th.map (lessT i)).getD k default).st = _
    rw [hget k, (lessT_same _ _).2.2.1, (lessT_same _ _).2.2.2.1]
    rcases h6 k with h | ⟨h7, _, h⟩ <;> rw [h]
    · exact .inl ⟨rfl, rfl⟩
    · exact .inr ⟨h7, rfl⟩
  · show ((m.th.map (lessT i)).getD k default).lf = _
    rw [hget k, (lessT_same _ _).2.2.2.2, hlf k]
  · show m.l.getD k default = _
    rw [h4, getD_setB (by omega)]
    by_cases h : (k : Int) = i
    · rw [if_pos (by omega), if_pos h, show i.toNat = k by omega]
    · rw [if_neg (by omega), if_neg h]
end Go.Eng
namespace Go.Eng
open Go Go.Proofs
abbrev Act := Int × Int
def encAct (a : Act) : List Cell := [.i a.1, .i a.2]
abbrev actsS (l : List Act) : Cell := slC 2 encAct l
def doneF (w : Wd) (a : Act) : Bool := hasW w a.2 && (if a.1 = 0 then canF w a.2 else decide (a.1 = 1 ∧ 0 < (w.l.getD a.2.toNat default).length))
def doF (w : Wd) (a : Act) : Wd := if doneF w a = true then (if a.1 = 0 then stepF w a.2 else flushF w a.2) else w
def runK (w : Wd) (acts : List Act) : Nat → Wd × Int
  | 0 => (w, 0)
  | k + 1 => if doneF (runK w acts k).1 (acts.getD k default) = true then (doF (runK w acts k).1 (acts.getD k default), (runK w acts k).2 + 1) else runK w acts k
theorem hasW_iff {w : Wd} {i : Int} : hasW w i = true ↔ 0 ≤ i ∧ i < w.th.length := decide_eq_true_iff
theorem doneF_no {w : Wd} {a : Act} (h : hasW w a.2 = false) : doneF w a = false := by unfold doneF; rw [h]; rfl
theorem doneF_step {w : Wd} {a : Act} (h : hasW w a.2 = true) (h0 : a.1 = 0) : doneF w a = canF w a.2 := by unfold doneF; rw [h, if_pos h0]; rfl
theorem doneF_else {w : Wd} {a : Act} (h : hasW w a.2 = true) (h0 : ¬ a.1 = 0) : doneF w a = decide (a.1 = 1 ∧ 0 < (w.l.getD a.2.toNat default).length) := by unfold doneF; rw [h, if_neg h0]; rfl
theorem doF_no {w : Wd} {a : Act} (h : ¬ doneF w a = true) : doF w a = w := if_neg h
theorem doF_step {w : Wd} {a : Act} (h : doneF w a = true) (h0 : a.1 = 0) : doF w a = stepF w a.2 := by unfold doF; rw [if_pos h, if_pos h0]
theorem doF_flush {w : Wd} {a : Act} (h : doneF w a = true) (h0 : ¬ a.1 = 0) : doF w a = flushF w a.2 := by unfold doF; rw [if_pos h, if_neg h0]
theorem done_ok {w : Wd} {a : Act} (hr : worldR w = true) (h : doneF w a = true) : WOk w a.2 := by
  refine ⟨hr, hasW_iff.1 ?_⟩
  cases e : hasW w a.2 with
  | true => rfl
  | false => rw [doneF_no e] at h; cases h
theorem done_can {w : Wd} {a : Act} (hr : worldR w = true) (h : doneF w a = true) (h0 : a.1 = 0) : canF w a.2 = true := by
  have ho := done_ok hr h
  rw [doneF_step (hasW_iff.2 ho.h) h0] at h; exact h
theorem done_flush {w : Wd} {a : Act} (hr : worldR w = true) (h : doneF w a = true) (h0 : ¬ a.1 = 0) : a.1 = 1 ∧ 0 < (w.l.getD a.2.toNat default).length := by
  have ho := done_ok hr h
  rw [doneF_else (hasW_iff.2 ho.h) h0] at h; exact of_decide_eq_true h
theorem can_st {w : Wd} {i : Int} (h : canF w i = true) : (thOf w i).st = 0 := by
  by_cases hs : (thOf w i).st = 0
  · exact hs
  · rw [canF_st hs] at h; exact Bool.noConfusion h
/-- What a run keeps. -/
structure KeptW (w w' : Wd) (k : Nat) : Prop where
  r : worldR w' = true
  code : w'.code = w.code
  n : w'.th.length = w.th.length
  ln : w'.l.length = w.l.length
  ev : w'.ev.length ≤ w.ev.length + k
theorem do_kept {w : Wd} (hr : worldR w = true) (a : Act) : KeptW w (doF w a) 1 := by
  by_cases h : doneF w a = true
  · have ho := done_ok hr h
    by_cases h0 : a.1 = 0
    · rw [doF_step h h0]
      have hk := step_keeps ho (can_st (done_can hr h h0))
      obtain ⟨e, he, hl⟩ := hk.ev
      exact ⟨hk.r, hk.code, hk.n, hk.ln, by rw [he, List.length_append]; omega⟩
    · rw [doF_flush h h0]
      have hk := flush_keeps ho
      exact ⟨hk.r, hk.code, hk.n, hk.ln, by rw [hk.ev]; omega⟩
  · rw [doF_no h]
    exact ⟨hr, rfl, rfl, rfl, by omega⟩
theorem KeptW.trans {u v w : Wd} {j k : Nat} (h1 : KeptW u v j) (h2 : KeptW v w k) : KeptW u w (j + k) :=
  ⟨h2.r, h2.code.trans h1.code, h2.n.trans h1.n, h2.ln.trans h1.ln, by have := h1.ev; have := h2.ev; omega⟩
theorem run_next {w : Wd} {acts : List Act} {k : Nat} : (runK w acts (k + 1)).1 = doF (runK w acts k).1 (acts.getD k default) := by
  rw [runK]
  by_cases h : doneF (runK w acts k).1 (acts.getD k default) = true
  · rw [if_pos h]
  · rw [if_neg h, doF_no h]
theorem run_done {w : Wd} {acts : List Act} {k : Nat} (h : doneF (runK w acts k).1 (acts.getD k default) = true) : runK w acts (k + 1) = (doF (runK w acts k).1 (acts.getD k default), (runK w acts k).2 + 1) := by
  rw [runK, if_pos h]
theorem run_not {w : Wd} {acts : List Act} {k : Nat} (h : ¬ doneF (runK w acts k).1 (acts.getD k default) = true) : runK w acts (k + 1) = runK w acts k := by
  rw [runK, if_neg h]
theorem run_kept {w : Wd} (hr : worldR w = true) (acts : List Act) : ∀ k, KeptW w (runK w acts k).1 k
  | 0 => ⟨hr, rfl, rfl, rfl, Nat.le_refl _⟩
  | k + 1 => by
    rw [run_next]
    have h := run_kept hr acts k
    exact h.trans (do_kept h.r _)
theorem run_cnt (w : Wd) (acts : List Act) : ∀ k : Nat, 0 ≤ (runK w acts k).2 ∧ (runK w acts k).2 ≤ k
  | 0 => ⟨Int.le_refl _, Int.le_refl _⟩
  | k + 1 => by
    have := run_cnt w acts k
    rw [runK]
    split
    · show 0 ≤ (runK w acts k).2 + 1 ∧ (runK w acts k).2 + 1 ≤ ((k + 1 : Nat) : Int)
      omega
    · show 0 ≤ (runK w acts k).2 ∧ (runK w acts k).2 ≤ ((k + 1 : Nat) : Int)
      omega
/-- A thread that has stopped stays so. -/
structure Stopped (t u : Th) : Prop where
  pc : u.pc = t.pc
  rg : ∀ j, getR u j = getR t j
  st : ¬ u.st = 0
  fa : t.st = 2 → u.st = 2 ∧ u.fa = t.fa
theorem do_stopped {w : Wd} (hr : worldR w = true) (a : Act) {k : Nat} (hs : ¬ (w.th.getD k default).st = 0) : Stopped (w.th.getD k default) ((doF w a).th.getD k default) := by
  by_cases h : doneF w a = true
  · have ho := done_ok hr h
    by_cases h0 : a.1 = 0
    · rw [doF_step h h0]
      have hst := can_st (done_can hr h h0)
      have hk := step_keeps ho hst
      have hh := ho.h
      have hne : ¬ (k : Int) = a.2 := fun e => hs (by
        have : a.2.toNat = k := by omega
        rw [← this]; exact hst)
      rw [hk.th k hne]
      exact ⟨rfl, fun _ => rfl, hs, fun h => ⟨h, rfl⟩⟩
    · rw [doF_flush h h0]
      have hk := flush_keeps ho
      refine ⟨hk.pc k, hk.rg k, ?_, fun h2 => ?_⟩
      · rcases hk.st k with ⟨e, _⟩ | ⟨_, e⟩ <;> omega
      · rcases hk.st k with ⟨e1, e2⟩ | ⟨e1, _⟩
        · exact ⟨e1.trans h2, e2⟩
        · exact absurd h2 e1
  · rw [doF_no h]
    exact ⟨rfl, fun _ => rfl, hs, fun h => ⟨h, rfl⟩⟩
theorem Stopped.trans {t u v : Th} (h1 : Stopped t u) (h2 : Stopped u v) : Stopped t v :=
  ⟨h2.pc.trans h1.pc, fun j => (h2.rg j).trans (h1.rg j), h2.st, fun h => ⟨(h2.fa (h1.fa h).1).1, ((h2.fa (h1.fa h).1).2).trans (h1.fa h).2⟩⟩
theorem run_stopped {w : Wd} (hr : worldR w = true) (acts : List Act) {j : Nat} (hs : ¬ (w.th.getD j default).st = 0) : ∀ k, Stopped (w.th.getD j default) ((runK w acts k).1.th.getD j default)
  | 0 => ⟨rfl, fun _ => rfl, hs, fun h => ⟨h, rfl⟩⟩
  | k + 1 => by
    rw [run_next]
    have h := run_stopped hr acts hs k
    exact h.trans (do_stopped (run_kept hr acts k).r _ h.st)
end Go.Eng
