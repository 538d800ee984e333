/- Instructions that need no memory: what an instruction keeps; so many instructions of a code. -/
import Derived.Test.YtgjdbpleoegejaaLoI
set_option linter.unusedVariables false
set_option linter.unusedSimpArgs false
namespace Go.Eng
open Go Go.Proofs

theorem readyF_iff {t : Th} {s : Int} : readyF t s = 0 ↔ thR t = true ∧ inF s 0 7 = true ∧ t.st = 0 ∧ t.lf.length = 0 := by
  unfold readyF
  constructor
  · intro h
    split at h
    · rename_i h1
      split at h
      · rename_i h2; exact ⟨h1.1, h1.2, h2.1, h2.2⟩
      · omega
    · omega
  · rintro ⟨h1, h2, h3, h4⟩
    rw [if_pos ⟨h1, h2⟩, if_pos ⟨h3, h4⟩]
theorem thR_of {t u : Th} (h : thR t = true) (hp : placeF u.pc = true) (e1 : u.fs = t.fs) (e2 : u.lf = t.lf) (e3 : u.st = t.st) (e4 : u.fa = t.fa) : thR u = true := by
  obtain ⟨a, b, c, d, e, f⟩ := thR_iff.1 h
  exact thR_iff.2 ⟨hp, by rw [e1]; exact b, by rw [e2]; exact c, by rw [e1]; exact d, by rw [e2]; exact e, by rw [e3, e4]; exact f⟩
theorem small_R {t : Th} (h : thR t = true) : SmallT t := by
  obtain ⟨_, b, c, _⟩ := thR_iff.1 h
  exact ⟨by omega, by omega⟩
theorem mem_any {l : List FrT} (h : l.any badFr = false) {x : FrT} (hx : x ∈ l) : placeF x.back = true := by
  have := List.any_eq_false.1 h x hx
  simpa [badFr] using this
/-- A call keeps what may be. -/
theorem call_keeps {t x : Th} {to : Int} (h : callF t to = (x, 0)) : thR x = true ∧ x.st = t.st ∧ x.fa = t.fa ∧ x.lf = t.lf := by
  by_cases hh : thR t = true ∧ ¬ t.pc = 1000 ∧ placeF to = true
  · by_cases h6 : t.fs.length = 6
    · rw [callF_deep hh h6] at h; simp at h
    · rw [callF_go hh h6] at h
      obtain ⟨rfl, _⟩ := Prod.mk.inj h
      obtain ⟨a, b, c, d, e, f⟩ := thR_iff.1 hh.1
      have hp := placeF_iff.1 a
      refine ⟨thR_iff.2 ⟨hh.2.2, ?_, c, ?_, e, f⟩, rfl, rfl, rfl⟩
      · show (t.fs ++ [_]).length ≤ 6
        rw [List.length_append]; simp only [List.length_cons, List.length_nil]; omega
      · show (t.fs ++ [_]).any badFr = false
        rw [List.any_append, d]
        have : placeF (t.pc + 1) = true := placeF_iff.2 (by omega)
        simp [badFr, this]
  · rw [callF_no hh] at h; simp at h
theorem back_keeps {t x : Th} (h : backF t = (x, 0)) : thR x = true ∧ x.st = t.st ∧ x.fa = t.fa ∧ x.lf = t.lf := by
  by_cases hh : thR t = true
  · by_cases h6 : t.fs.length = 0
    · rw [backF_none hh h6] at h; simp at h
    · rw [backF_go hh h6] at h
      obtain ⟨rfl, _⟩ := Prod.mk.inj h
      obtain ⟨a, b, c, d, e, f⟩ := thR_iff.1 hh
      have hmem : t.fs.getD (t.fs.length - 1) default ∈ t.fs := by
        rw [List.getD_eq_getElem?_getD, List.getElem?_eq_getElem (by omega)]
        exact List.getElem_mem _
      refine ⟨thR_iff.2 ⟨mem_any d hmem, ?_, c, ?_, e, f⟩, rfl, rfl, rfl⟩
      · show (t.fs.take _).length ≤ 6
        rw [List.length_take]; omega
      · show (t.fs.take _).any badFr = false
        rw [List.any_eq_false] at d ⊢
        exact fun y hy => d y (List.mem_of_mem_take hy)
  · rw [backF_no hh] at h; simp at h
theorem opF_rest (t : Th) (s op a b c : Int) : (opF t s op a b c).fs = t.fs ∧ (opF t s op a b c).lf = t.lf ∧ (opF t s op a b c).st = t.st ∧ (opF t s op a b c).fa = t.fa := by
  have key : ∀ (p : Prop) [Decidable p] (x y : Th), (x.fs = t.fs ∧ x.lf = t.lf ∧ x.st = t.st ∧ x.fa = t.fa) → (y.fs = t.fs ∧ y.lf = t.lf ∧ y.st = t.st ∧ y.fa = t.fa) →
      ((if p then x else y).fs = t.fs ∧ (if p then x else y).lf = t.lf ∧ (if p then x else y).st = t.st ∧ (if p then x else y).fa = t.fa) := by
    intro p _ x y hx hy
    split
    · exact hx
    · exact hy
  unfold opF
  repeat' (first | exact ⟨rfl, rfl, rfl, rfl⟩ | apply key)
theorem opF_pc {t : Th} {s op a b c : Int} (hop : 1 ≤ op ∧ op ≤ 15) (h13 : ¬ op = 13) (h14 : ¬ op = 14) (hp : 0 ≤ t.pc ∧ t.pc ≤ 1000) (h : ¬ t.pc = 1000) (hm : mayI op a b c = true) : 0 ≤ (opF t s op a b c).pc ∧ (opF t s op a b c).pc ≤ 1000 := by
  have hj := (mayI_iff.1 hm).2
  have hop' : op = 1 ∨ op = 2 ∨ op = 3 ∨ op = 4 ∨ op = 5 ∨ op = 6 ∨ op = 7 ∨ op = 8 ∨ op = 9 ∨ op = 10 ∨ op = 11 ∨ op = 12 ∨ op = 15 := by omega
  have h1 : 0 ≤ t.pc + 1 ∧ t.pc + 1 ≤ 1000 := by omega
  rcases hop' with rfl | rfl | rfl | rfl | rfl | rfl | rfl | rfl | rfl | rfl | rfl | rfl | rfl
  iterate 9 exact h1
  · exact hj (by decide)
  · have := hj (by decide)
    have this : 0 ≤ b ∧ b ≤ 1000 := this
    show 0 ≤ (if getR t a = 0 then setPc t b else setPc t (t.pc + 1)).pc ∧ (if getR t a = 0 then setPc t b else setPc t (t.pc + 1)).pc ≤ 1000
    split
    · exact this
    · exact h1
  · have := hj (by decide)
    have this : 0 ≤ b ∧ b ≤ 1000 := this
    show 0 ≤ (if getR t a = 0 then setPc t (t.pc + 1) else setPc t b).pc ∧ (if getR t a = 0 then setPc t (t.pc + 1) else setPc t b).pc ≤ 1000
    split
    · exact h1
    · exact this
  · exact h1
/-- An instruction that was done keeps what may be. -/
theorem ap_split {t x : Th} {s op a b c : Int} (h : apF t s op a b c = (x, 0)) : readyF t s = 0 ∧ ¬ t.pc = 1000 ∧ inF op 1 15 = true ∧ mayI op a b c = true ∧ applyF t s op a b c = (x, 0) := by
  by_cases hA : readyF t s = 1 ∨ t.pc = 1000
  · rw [apF_A hA] at h; simp at h
  by_cases hB : readyF t s = 9
  · rw [apF_B hA hB] at h; simp at h
  by_cases hC : inF op 1 15 = false
  · rw [apF_C hA hB hC] at h; simp at h
  by_cases hD : mayI op a b c = false
  · rw [apF_D hA hB hC hD] at h; simp at h
  rw [apF_E hA hB hC hD] at h
  refine ⟨?_, fun h => hA (.inr h), by simpa using hC, by simpa using hD, h⟩
  rcases readyF_or t s with h | h | h
  · exact h
  · exact absurd (.inl h) hA
  · exact absurd h hB
theorem inF_iff {n lo hi : Int} : inF n lo hi = true ↔ lo ≤ n ∧ n ≤ hi := decide_eq_true_iff
theorem ap_keeps {t x : Th} {s op a b c : Int} (h : apF t s op a b c = (x, 0)) : thR x = true ∧ x.st = t.st ∧ x.fa = t.fa ∧ x.lf = t.lf := by
  obtain ⟨h1, h2, h3, h4, h5⟩ := ap_split h
  have hop := inF_iff.1 h3
  obtain ⟨r1, r2, r3, r4⟩ := readyF_iff.1 h1
  by_cases h13 : op = 13
  · subst h13; exact call_keeps h5
  by_cases h14 : op = 14
  · subst h14; exact back_keeps h5
  have e : applyF t s op a b c = (opF t s op a b c, 0) := by rw [applyF, if_neg h13, if_neg h14]
  rw [e] at h5
  obtain ⟨rfl, _⟩ := Prod.mk.inj h5
  obtain ⟨e1, e2, e3, e4⟩ := opF_rest t s op a b c
  have hp := placeF_iff.1 (thR_iff.1 r1).1
  exact ⟨thR_of r1 (placeF_iff.2 (opF_pc hop h13 h14 hp h2 h4)) e1 e2 e3 e4, e3, e4, e2⟩
theorem ap_ready {t x : Th} {s op a b c : Int} (h : apF t s op a b c = (x, 0)) : readyF x s = 0 := by
  obtain ⟨h1, _⟩ := ap_split h
  obtain ⟨r1, r2, r3, r4⟩ := readyF_iff.1 h1
  obtain ⟨k1, k2, k3, k4⟩ := ap_keeps h
  exact readyF_iff.2 ⟨k1, r2, by rw [k2]; exact r3, by rw [k4]; exact r4⟩

abbrev Ins := Int × Int × Int × Int
def encIns (i : Ins) : List Cell := [.i i.1, .i i.2.1, .i i.2.2.1, .i i.2.2.2]
abbrev codeS (l : List Ins) : Cell := slC 4 encIns l
def insAt (code : List Ins) (t : Th) : Ins := code.getD t.pc.toNat default
/-- So many instructions of a code, at most. -/
def runW (s : Int) (code : List Ins) : Nat → Th → Nat → Th × Nat
  | 0, t, n => (t, n)
  | k + 1, t, n => if t.pc < (code.length : Int) ∧ (apF t s (insAt code t).1 (insAt code t).2.1 (insAt code t).2.2.1 (insAt code t).2.2.2).2 = 0
    then runW s code k (apF t s (insAt code t).1 (insAt code t).2.1 (insAt code t).2.2.1 (insAt code t).2.2.2).1 (n + 1) else (t, n)
def runF (t : Th) (s : Int) (code : List Ins) (most : Int) : Th × Nat × Int :=
  if readyF t s = 1 ∨ ¬ (0 ≤ most ∧ most ≤ 1000) then (th0, 0, 1) else if readyF t s = 9 then (th0, 0, 9) else ((runW s code most.toNat t 0).1, (runW s code most.toNat t 0).2, 0)
end Go.Eng
