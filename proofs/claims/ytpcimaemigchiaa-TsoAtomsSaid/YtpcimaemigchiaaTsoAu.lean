/- TsoAtoms, walked. -/
import Derived.Test.YtpcimaemigchiaaTsoMk
import Derived.Test.YtpcimaemigchiaaTsoQ
set_option linter.unusedVariables false
set_option linter.unusedSimpArgs false
namespace Go.Eng
open Go Go.Proofs

def OkW (ws : List Int) : Prop := ∀ x ∈ ws, OkI x
theorem wrap_spec (x : Int) : ∃ q, IntKind.i64.wrap x = x - 18446744073709551616 * q ∧ -9223372036854775808 ≤ IntKind.i64.wrap x ∧ IntKind.i64.wrap x ≤ 9223372036854775807 := by
  have e : IntKind.i64.wrap x = (if (true && decide (x % 18446744073709551616 ≥ 9223372036854775808)) = true then x % 18446744073709551616 - 18446744073709551616 else x % 18446744073709551616) := rfl
  rw [e]
  simp only [Bool.true_and, decide_eq_true_eq]
  split
  · exact ⟨x / 18446744073709551616 + 1, by omega, by omega, by omega⟩
  · exact ⟨x / 18446744073709551616, by omega, by omega, by omega⟩
theorem wrap_back {w x : Int} (hw : OkI w) : IntKind.i64.wrap (IntKind.i64.wrap (w + x) + IntKind.i64.wrap (0 - x)) = w := by
  obtain ⟨q1, a1, a2, a3⟩ := wrap_spec (w + x)
  obtain ⟨q2, b1, b2, b3⟩ := wrap_spec (0 - x)
  obtain ⟨q3, c1, c2, c3⟩ := wrap_spec (IntKind.i64.wrap (w + x) + IntKind.i64.wrap (0 - x))
  obtain ⟨h1, h2⟩ := hw
  omega
theorem lock_bad {ws ts : List Int} {d : Int} {l : List (List Put)} {i k a x y : Int} (h : ¬ (lockT (ws, ts, d, l) i k a x y).2.2 = 0) : (lockT (ws, ts, d, l) i k a x y).1 = tso0 ∧ (lockT (ws, ts, d, l) i k a x y).2.1 = 0 := by
  unfold lockT at h ⊢
  simp only at h ⊢
  split
  · split
    · exact ⟨rfl, rfl⟩
    · split
      · simp_all
      · exact ⟨rfl, rfl⟩
  · exact ⟨rfl, rfl⟩
theorem lock_go {ws ts : List Int} {d : Int} {l : List (List Put)} {i k a x y : Int} (hk : 0 ≤ k ∧ k < 3) (h1 : hasF ws ts d l i = true) (h2 : (l.getD i.toNat default).length = 0) (h3 : useF ws ts a = 0) :
    lockT (ws, ts, d, l) i k a x y = ((ws.set a.toNat (becF k (ws.getD a.toNat default) x y), ts, d, l), ws.getD a.toNat default, 0) := by
  have hl : loadF ws ts a = (ws.getD a.toNat default, 0) := by rw [loadF, if_pos h3]
  have h9 : ¬ 0 < (l.getD i.toNat default).length := by omega
  have hs := fun v => storeF_go h3 (v := v)
  simp only [lockT, h1, hk, h9, hl, hs, and_self, ↓reduceIte]
theorem lock_cases {ws ts : List Int} {d : Int} {l : List (List Put)} {i k a x y : Int} (hk : 0 ≤ k ∧ k < 3) (h : (lockT (ws, ts, d, l) i k a x y).2.2 = 0) :
    hasF ws ts d l i = true ∧ (l.getD i.toNat default).length = 0 ∧ useF ws ts a = 0 := by
  by_cases hh : hasF ws ts d l i = true ∧ 0 ≤ k ∧ k < 3
  · by_cases h9 : 0 < (l.getD i.toNat default).length
    · simp only [lockT, hh, h9, and_self, ↓reduceIte] at h
      simp at h
    · by_cases hl : (loadF ws ts a).2 = 0
      · exact ⟨hh.1, by omega, by rw [loadF_use] at hl; exact hl⟩
      · (simp only [lockT, hh, h9, hl, and_self, ↓reduceIte] at h) <;> exact absurd h hl
  · rw [lockT, if_neg hh] at h; exact absurd h (by decide)
theorem hasF_set {ws ts : List Int} {d : Int} {l : List (List Put)} {i a v : Int} (h1 : hasF ws ts d l i = true) (h3 : useF ws ts a = 0) : hasF (ws.set a.toNat v) ts d l i = true := by
  obtain ⟨a1, a2, a3⟩ := hasF_iff.1 h1
  exact hasF_iff.2 ⟨tsoR_ws a1 (memR_set h3) (by simp), a2, a3⟩
theorem set_back {ws : List Int} {p : Nat} {v : Int} (hp : p < ws.length) : (ws.set p v).set p (ws.getD p default) = ws := by
  rw [List.set_set, List.getD_eq_getElem?_getD, List.getElem?_eq_getElem hp]
  exact List.set_getElem_self hp
/-- All that the statement asks about. -/
theorem atoms {ws ts : List Int} {d : Int} {l : List (List Put)} {i a x y : Int} (hw : OkW ws) (h : (lockT (ws, ts, d, l) i 2 a x 0).2.2 = 0) : ∃ w, 
    lockT (ws, ts, d, l) i 2 a x 0 = ((ws.set a.toNat (IntKind.i64.wrap (w + x)), ts, d, l), w, 0) ∧
    lockT (ws.set a.toNat (IntKind.i64.wrap (w + x)), ts, d, l) i 2 a (IntKind.i64.wrap (0 - x)) 0 = ((ws, ts, d, l), IntKind.i64.wrap (w + x), 0) ∧
    lockT (ws, ts, d, l) i 1 a y 0 = ((ws.set a.toNat y, ts, d, l), w, 0) ∧
    lockT (ws.set a.toNat y, ts, d, l) i 1 a w 0 = ((ws, ts, d, l), y, 0) ∧
    lockT (ws, ts, d, l) i 0 a x y = ((if w = x then ws.set a.toNat y else ws, ts, d, l), w, 0) := by
  obtain ⟨h1, h2, h3⟩ := lock_cases ⟨by omega, by omega⟩ h
  obtain ⟨u1, u2, u3, u4⟩ := useF_ok.1 h3
  have hp : a.toNat < ws.length := by omega
  have hok : OkI (ws.getD a.toNat default) := by
    rw [List.getD_eq_getElem?_getD, List.getElem?_eq_getElem hp]
    exact hw _ (List.getElem_mem hp)
  have g3 : ∀ v, useF (ws.set a.toNat v) ts a = 0 := fun v => by rw [useF_set h3]; exact h3
  refine ⟨ws.getD a.toNat default, lock_go ⟨by omega, by omega⟩ h1 h2 h3, ?_, lock_go ⟨by omega, by omega⟩ h1 h2 h3, ?_, ?_⟩
  · rw [lock_go ⟨by omega, by omega⟩ (hasF_set h1 h3) h2 (g3 _), getD_set_eq hp]
    show ((((ws.set a.toNat _).set a.toNat (IntKind.i64.wrap (IntKind.i64.wrap (ws.getD a.toNat default + x) + IntKind.i64.wrap (0 - x)))), ts, d, l), _, (0 : Int)) = _
    rw [wrap_back hok, set_back hp]
  · rw [lock_go ⟨by omega, by omega⟩ (hasF_set h1 h3) h2 (g3 _), getD_set_eq hp]
    show ((((ws.set a.toNat _).set a.toNat (ws.getD a.toNat default)), ts, d, l), _, (0 : Int)) = _
    rw [set_back hp]
  · rw [lock_go ⟨by omega, by omega⟩ h1 h2 h3]
    show ((ws.set a.toNat (if ws.getD a.toNat default = x then y else ws.getD a.toNat default), ts, d, l), _, (0 : Int)) = _
    split
    · rfl
    · rw [show ws.set a.toNat (ws.getD a.toNat default) = ws by rw [List.getD_eq_getElem?_getD, List.getElem?_eq_getElem hp]; exact List.set_getElem_self hp]

end Go.Eng
