/- The buffer: the plain laws. -/
import Derived.Test.YtpcimaemigchiaaBufA
import Derived.Test.YtpcimaemigchiaaMemP
set_option linter.unusedVariables false
set_option linter.unusedSimpArgs false
namespace Go.Eng
open Go Go.Proofs

/-- All puts stored, from the i-th on. -/
def foldG (ts : List Int) : List Int → List Put → Nat → (List Int × List Int) × Int × Int
  | ws, [], _ => ((ws, ts), 0, 0)
  | ws, p :: r, i => if useF ws ts p.1 = 0 then foldG ts (ws.set p.1.toNat p.2) r (i + 1) else (([], []), i, useF ws ts p.1)
def foldF (ws ts : List Int) (b : List Put) : (List Int × List Int) × Int × Int := if memR ws ts = true then foldG ts ws b 0 else (([], []), 0, 1)

theorem foldG_go {ts ws : List Int} {b : List Put} {k : Nat} (hk : k < b.length) (hu : useF ws ts (b.getD k default).1 = 0) :
    foldG ts ws (b.drop k) k = foldG ts (ws.set (b.getD k default).1.toNat (b.getD k default).2) (b.drop (k + 1)) (k + 1) := by
  rw [drop_getD (d := default) hk, foldG, if_pos hu]
theorem foldG_no {ts ws : List Int} {b : List Put} {k : Nat} (hk : k < b.length) (hu : useF ws ts (b.getD k default).1 ≠ 0) :
    foldG ts ws (b.drop k) k = (([], []), (k : Int), useF ws ts (b.getD k default).1) := by
  rw [drop_getD (d := default) hk, foldG, if_neg hu]
theorem foldG_end {ts ws : List Int} {b : List Put} {k : Nat} (hk : ¬ k < b.length) : foldG ts ws (b.drop k) k = ((ws, ts), 0, 0) := by
  rw [List.drop_eq_nil_of_le (by omega)]; rfl

/-- The state of a fold behind k puts. -/
structure FoldI (ts : List Int) (b : List Put) (w0 : List Int) (s : Nat × List Int) : Prop where
  hk : s.1 ≤ b.length
  hm : memR s.2 ts = true
  hl : s.2.length = w0.length
  run : foldG ts w0 b 0 = foldG ts s.2 (b.drop s.1) s.1
theorem FoldI.start {ts : List Int} {b : List Put} {w0 : List Int} (h : memR w0 ts = true) : FoldI ts b w0 (0, w0) := ⟨Nat.zero_le _, h, rfl, by simp⟩
theorem FoldI.step {ts : List Int} {b : List Put} {w0 ws : List Int} {k : Nat} (h : FoldI ts b w0 (k, ws)) (hk : k < b.length) (hu : useF ws ts (b.getD k default).1 = 0) :
    FoldI ts b w0 (k + 1, ws.set (b.getD k default).1.toNat (b.getD k default).2) :=
  ⟨hk, memR_set hu, by have := h.hl; simpa using this, by rw [h.run]; exact foldG_go hk hu⟩
theorem FoldI.stop {ts : List Int} {b : List Put} {w0 ws : List Int} {k : Nat} (h : FoldI ts b w0 (k, ws)) (hk : k < b.length) (hu : useF ws ts (b.getD k default).1 ≠ 0) :
    foldG ts w0 b 0 = (([], []), (k : Int), useF ws ts (b.getD k default).1) := by rw [h.run]; exact foldG_no hk hu
theorem FoldI.done {ts : List Int} {b : List Put} {w0 ws : List Int} {k : Nat} (h : FoldI ts b w0 (k, ws)) (hk : ¬ k < b.length) : foldG ts w0 b 0 = ((ws, ts), 0, 0) := by rw [h.run]; exact foldG_end hk

theorem newestN_cons (p : Put) (r : List Put) (a : Int) : ∀ k, newestN (p :: r) a (k + 1) = if (newestN r a k).2 = true then newestN r a k else if p.1 = a then (p.2, true) else (0, false)
  | 0 => by simp [newestN]
  | k + 1 => by
    rw [newestN]
    show (if (r.getD k default).1 = a then ((r.getD k default).2, true) else newestN (p :: r) a (k + 1)) = _
    rw [newestN_cons p r a k, newestN]
    by_cases h : (r.getD k default).1 = a
    · simp only [if_pos h]; rfl
    · simp only [if_neg h]
theorem newest_cons (p : Put) (r : List Put) (a : Int) : newestF (p :: r) a = if (newestF r a).2 = true then newestF r a else if p.1 = a then (p.2, true) else (0, false) := newestN_cons p r a r.length

theorem useF_eq {ws ts : List Int} (h : memR ws ts = true) (a : Int) : useF ws ts a = if a < 0 ∨ ws.length ≤ a then 3 else whyF (ts.getD a.toNat default) := by rw [useF, if_pos h]

theorem fold_tags {ts : List Int} : ∀ (b : List Put) (ws : List Int) (i : Nat), (foldG ts ws b i).2.2 = 0 → (foldG ts ws b i).1.2 = ts ∧ (foldG ts ws b i).1.1.length = ws.length ∧ (foldG ts ws b i).2.1 = 0
  | [], ws, i, _ => ⟨rfl, rfl, rfl⟩
  | p :: r, ws, i, h => by
    by_cases hu : useF ws ts p.1 = 0
    · rw [foldG, if_pos hu] at h ⊢
      have := fold_tags r _ _ h
      simpa using this
    · rw [foldG, if_neg hu] at h
      exact absurd h hu

/-- What stands at a place once all is stored. -/
theorem view {ts : List Int} {a : Int} : ∀ (b : List Put) (ws : List Int) (i : Nat), memR ws ts = true → (foldG ts ws b i).2.2 = 0 →
    ((newestF b a).2 = true → loadF (foldG ts ws b i).1.1 ts a = ((newestF b a).1, 0) ∧ useF ws ts a = 0) ∧
    ((newestF b a).2 = false → (newestF b a).1 = 0 ∧ loadF (foldG ts ws b i).1.1 ts a = loadF ws ts a)
  | [], ws, i, hm, h => ⟨fun h => Bool.noConfusion h, fun _ => ⟨rfl, rfl⟩⟩
  | p :: r, ws, i, hm, h => by
    by_cases hu : useF ws ts p.1 = 0
    · rw [foldG, if_pos hu] at h ⊢
      obtain ⟨h1, h2⟩ := view (a := a) r _ _ (memR_set hu) h
      rw [newest_cons]
      by_cases hn : (newestF r a).2 = true
      · rw [if_pos hn]
        refine ⟨fun _ => ?_, fun h => by rw [hn] at h; cases h⟩
        obtain ⟨g1, g2⟩ := h1 hn
        exact ⟨g1, by rw [useF_set hu] at g2; exact g2⟩
      · have hn' : (newestF r a).2 = false := by simpa using hn
        obtain ⟨g1, g2⟩ := h2 hn'
        rw [if_neg hn]
        by_cases e : p.1 = a
        · subst e
          rw [if_pos rfl]
          exact ⟨fun _ => ⟨by rw [g2]; exact holds1 hu, hu⟩, fun h => by cases h⟩
        · rw [if_neg e]
          exact ⟨fun h => (by cases h), fun _ => ⟨rfl, by rw [g2]; exact holds2 hu (Ne.symm e)⟩⟩
    · rw [foldG, if_neg hu] at h
      exact absurd h hu
theorem foldF_bad {ws ts : List Int} {b : List Put} (h : memR ws ts = false) : foldF ws ts b = (([], []), 0, 1) := by rw [foldF, if_neg (by simp [h])]
theorem foldF_good {ws ts : List Int} {b : List Put} (h : memR ws ts = true) : foldF ws ts b = foldG ts ws b 0 := by rw [foldF, if_pos h]
theorem foldG_bad {ts : List Int} : ∀ (b : List Put) (ws : List Int) (i : Nat), (foldG ts ws b i).2.2 ≠ 0 → (foldG ts ws b i).1 = ([], [])
  | [], ws, i, h => absurd rfl h
  | p :: r, ws, i, h => by
    by_cases hu : useF ws ts p.1 = 0
    · rw [foldG, if_pos hu] at h ⊢
      exact foldG_bad r _ _ h
    · rw [foldG, if_neg hu]
theorem foldG_len {ts : List Int} : ∀ (b : List Put) (ws : List Int) (i : Nat), (foldG ts ws b i).1.1.length ≤ ws.length ∧ (foldG ts ws b i).1.2.length ≤ ts.length
  | [], ws, i => ⟨Nat.le_refl _, Nat.le_refl _⟩
  | p :: r, ws, i => by
    rw [foldG]
    split
    · have := foldG_len (ts := ts) r (ws.set p.1.toNat p.2) (i + 1)
      simpa using this
    · simp
theorem foldF_len (ws ts : List Int) (b : List Put) : (foldF ws ts b).1.1.length ≤ ws.length ∧ (foldF ws ts b).1.2.length ≤ ts.length := by
  unfold foldF
  split
  · exact foldG_len _ _ _
  · simp
end Go.Eng
