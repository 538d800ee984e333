/- Sums and exclusive ors of an instruction, and what comes of two. -/
import Derived.Test.YtgjdbpleoegejaaLoR
set_option linter.unusedVariables false
set_option linter.unusedSimpArgs false
namespace Go.Eng
open Go Go.Proofs

theorem of_wrap (v : BitVec 64) : BitVec.ofInt 64 (IntKind.i64.wrap (v.toNat : Int)) = v := by
  apply BitVec.eq_of_toNat_eq
  rw [BitVec.toNat_ofInt]
  have hv : v.toNat < 18446744073709551616 := v.isLt
  have e : IntKind.i64.wrap (v.toNat : Int) = if (v.toNat : Int) ≥ 9223372036854775808 then (v.toNat : Int) - 18446744073709551616 else v.toNat := by
    have hm : (v.toNat : Int) % 18446744073709551616 = v.toNat := by omega
    show (if (true && decide ((v.toNat : Int) % 18446744073709551616 ≥ 9223372036854775808)) = true then (v.toNat : Int) % 18446744073709551616 - 18446744073709551616 else (v.toNat : Int) % 18446744073709551616) = _
    rw [hm]
    simp
  rw [e]
  by_cases h : (v.toNat : Int) ≥ 9223372036854775808
  · rw [if_pos h]
    show (((v.toNat : Int) - 18446744073709551616) % 18446744073709551616).toNat = v.toNat
    omega
  · rw [if_neg h]
    show ((v.toNat : Int) % 18446744073709551616).toNat = v.toNat
    omega
theorem wrap_of {a : Int} (h : OkI a) : IntKind.i64.wrap (((BitVec.ofInt 64 a).toNat : Nat) : Int) = a := by
  obtain ⟨h1, h2⟩ := h
  rw [BitVec.toNat_ofInt]
  have e : ((a % ((2 ^ 64 : Nat) : Int)).toNat : Int) = a % 18446744073709551616 := by
    show (((a % 18446744073709551616).toNat : Nat) : Int) = _
    omega
  rw [e]
  show (if (true && decide (a % 18446744073709551616 % 18446744073709551616 ≥ 9223372036854775808)) = true then a % 18446744073709551616 % 18446744073709551616 - 18446744073709551616 else a % 18446744073709551616 % 18446744073709551616) = a
  simp only [Bool.true_and, decide_eq_true_eq]
  split <;> omega
theorem xor_back {a b : Int} (ha : OkI a) : Go.bits .xor .i64 (Go.bits .xor .i64 a b) b = a := by
  have e : BitVec.ofInt 64 (Go.bits .xor .i64 a b) = BitVec.ofInt 64 a ^^^ BitVec.ofInt 64 b := of_wrap _
  show IntKind.i64.wrap (((BitVec.ofInt 64 (Go.bits .xor .i64 a b) ^^^ BitVec.ofInt 64 b).toNat : Nat) : Int) = a
  rw [e, BitVec.xor_assoc, BitVec.xor_self, BitVec.xor_zero]
  exact wrap_of ha
theorem xor_over {a b : Int} (hb : OkI b) : Go.bits .xor .i64 (Go.bits .xor .i64 a b) a = b := by
  have e : BitVec.ofInt 64 (Go.bits .xor .i64 a b) = BitVec.ofInt 64 a ^^^ BitVec.ofInt 64 b := of_wrap _
  show IntKind.i64.wrap (((BitVec.ofInt 64 (Go.bits .xor .i64 a b) ^^^ BitVec.ofInt 64 a).toNat : Nat) : Int) = b
  rw [e, BitVec.xor_comm (BitVec.ofInt 64 a), BitVec.xor_assoc, BitVec.xor_self, BitVec.xor_zero]
  exact wrap_of hb
theorem wrap_back {a b : Int} (ha : OkI a) : IntKind.i64.wrap (IntKind.i64.wrap (a + b) - b) = a := by
  obtain ⟨h1, h2⟩ := ha
  have key : ∀ n : Int, IntKind.i64.wrap n = if n % 18446744073709551616 ≥ 9223372036854775808 then n % 18446744073709551616 - 18446744073709551616 else n % 18446744073709551616 := by
    intro n
    show (if (true && decide (n % 18446744073709551616 ≥ 9223372036854775808)) = true then n % 18446744073709551616 - 18446744073709551616 else n % 18446744073709551616) = _
    simp
  rw [key, key]
  split <;> split <;> omega

theorem getR_same {t : Th} {a v : Int} (h : 0 ≤ a ∧ a < 8) : getR (setR t a v) a = v := by
  have : a = 0 ∨ a = 1 ∨ a = 2 ∨ a = 3 ∨ a = 4 ∨ a = 5 ∨ a = 6 ∨ a = 7 := by omega
  rcases this with rfl | rfl | rfl | rfl | rfl | rfl | rfl | rfl <;> rfl
theorem getR_oth {t : Th} {a v k : Int} (hk : 0 ≤ k ∧ k < 8) (h : ¬ k = a) : getR (setR t a v) k = getR t k := by
  have e : k = (k.toNat : Int) := by omega
  rw [e]
  exact getR_set (by omega) (by rw [← e]; exact h)
theorem getR_pc (t : Th) (e k : Int) : getR (setPc t e) k = getR t k := rfl
/-- A thread that can go on, at its beginning. -/
structure Calm (t : Th) (p : Int) : Prop where
  r : readyF t 0 = 0
  pc : t.pc = p
theorem Calm.start {q0 q1 q2 q3 q4 q5 q6 q7 : Int} : Calm ⟨0, q0, q1, q2, q3, q4, q5, q6, q7, [], 0, 0, []⟩ 0 := ⟨rfl, rfl⟩
theorem Calm.small {t : Th} {p : Int} (h : Calm t p) : SmallT t := small_R (readyF_iff.1 h.r).1
theorem may3 {op x y z : Int} (hop : op = 5 ∨ op = 6 ∨ op = 8 ∨ op = 9) (hx : 0 ≤ x ∧ x < 8) (hy : 0 ≤ y ∧ y < 8) (hz : 0 ≤ z ∧ z < 8) : mayI op x y z = true := by
  refine mayI_iff.2 ⟨fun k hk => ?_, fun h => ?_⟩
  · have := (regsF_le op).2
    have : k = 0 ∨ k = 1 ∨ k = 2 := by omega
    rcases this with rfl | rfl | rfl
    · show 0 ≤ x ∧ x ≤ 7; omega
    · show 0 ≤ y ∧ y ≤ 7; omega
    · show 0 ≤ z ∧ z ≤ 7; omega
  · rcases hop with rfl | rfl | rfl | rfl <;> exact absurd h (by decide)
theorem may12 {op x z : Int} (hop : op = 11 ∨ op = 12) (hx : 0 ≤ x ∧ x < 8) : mayI op x 9 z = true := by
  refine mayI_iff.2 ⟨fun k hk => ?_, fun h => ?_⟩
  · have : k = 0 := by
      have : regsF op = 1 := by rcases hop with rfl | rfl <;> rfl
      omega
    subst this
    show 0 ≤ x ∧ x ≤ 7; omega
  · have : jumpF op = 1 := by rcases hop with rfl | rfl <;> rfl
    rw [this]
    show 0 ≤ (9 : Int) ∧ (9 : Int) ≤ 1000
    omega
theorem Calm.go {t : Th} {p op x y z : Int} (h : Calm t p) (hp : ¬ p = 1000) (hop : op = 5 ∨ op = 6 ∨ op = 8 ∨ op = 9 ∨ op = 11 ∨ op = 12) (hm : mayI op x y z = true) : apF t 0 op x y z = (opF t 0 op x y z, 0) := by
  have e := ap_is (s := 0) (op := op) (a := x) (b := y) (c := z) h.r (by rw [h.pc]; exact hp) (by rcases hop with rfl | rfl | rfl | rfl | rfl | rfl <;> rfl) hm
  rw [e]
  rcases hop with rfl | rfl | rfl | rfl | rfl | rfl <;> rfl
theorem Calm.next {t u : Th} {p op x y z : Int} (h : Calm t p) (he : apF t 0 op x y z = (u, 0)) (hu : u.pc = p + 1) : Calm u (p + 1) := ⟨ap_ready he, hu⟩

variable {q0 q1 q2 q3 q4 q5 q6 q7 X Y : Int}
abbrev q8 (p q0 q1 q2 q3 q4 q5 q6 q7 : Int) : Th := ⟨p, q0, q1, q2, q3, q4, q5, q6, q7, [], 0, 0, []⟩
theorem th_ext {t u : Th} (h0 : t.pc = u.pc) (h : ∀ k : Int, 0 ≤ k ∧ k < 8 → getR t k = getR u k) (h1 : t.fs = u.fs) (h2 : t.lf = u.lf) (h3 : t.st = u.st) (h4 : t.fa = u.fa) : t = u := by
  have e0 := h 0 (by decide); have e1 := h 1 (by decide); have e2 := h 2 (by decide); have e3 := h 3 (by decide)
  have e4 := h 4 (by decide); have e5 := h 5 (by decide); have e6 := h 6 (by decide); have e7 := h 7 (by decide)
  obtain ⟨_, _, _, _, _, _, _, _, _, _, _, _, _⟩ := t
  obtain ⟨_, _, _, _, _, _, _, _, _, _, _, _, _⟩ := u
  simp only [getR] at e0 e1 e2 e3 e4 e5 e6 e7
  simp at *
  simp [*]
/-- Added and taken away again. -/
theorem sums_add (hX : 0 ≤ X ∧ X < 8) (hY : 0 ≤ Y ∧ Y < 8) (hne : ¬ X = Y) (ha : OkI (getR (q8 0 q0 q1 q2 q3 q4 q5 q6 q7) X)) :
    ∃ u, apF (q8 0 q0 q1 q2 q3 q4 q5 q6 q7) 0 5 X X Y = (u, 0) ∧ SmallT u ∧ apF u 0 6 X X Y = (q8 2 q0 q1 q2 q3 q4 q5 q6 q7, 0) := by
  have h0 : Calm (q8 0 q0 q1 q2 q3 q4 q5 q6 q7) 0 := Calm.start
  have e1 := h0.go (by decide) (op := 5) (by decide) (may3 (by decide) hX hX hY)
  have c1 := h0.next e1 rfl
  have e2 := c1.go (by decide) (op := 6) (by decide) (may3 (by decide) hX hX hY)
  refine ⟨_, e1, c1.small, e2.trans (Prod.ext ?_ rfl)⟩
  refine th_ext rfl (fun k hk => ?_) rfl rfl rfl rfl
  show getR (setR (setPc (opF _ 0 5 X X Y) _) X (IntKind.i64.wrap (getR (opF _ 0 5 X X Y) X - getR (opF _ 0 5 X X Y) Y))) k = _
  have g1 : getR (opF (q8 0 q0 q1 q2 q3 q4 q5 q6 q7) 0 5 X X Y) X = IntKind.i64.wrap (getR (q8 0 q0 q1 q2 q3 q4 q5 q6 q7) X + getR (q8 0 q0 q1 q2 q3 q4 q5 q6 q7) Y) := getR_same hX
  have g2 : getR (opF (q8 0 q0 q1 q2 q3 q4 q5 q6 q7) 0 5 X X Y) Y = getR (q8 0 q0 q1 q2 q3 q4 q5 q6 q7) Y := getR_oth hY (fun h => hne h.symm)
  rw [g1, g2, wrap_back ha]
  by_cases hk2 : k = X
  · subst hk2; rw [getR_same hX]; rfl
  · rw [getR_oth hk hk2, getR_pc]
    exact getR_oth hk hk2
/-- Three exclusive ors. -/
theorem sums_xor (hX : 0 ≤ X ∧ X < 8) (hY : 0 ≤ Y ∧ Y < 8) (hne : ¬ X = Y) (ha : OkI (getR (q8 0 q0 q1 q2 q3 q4 q5 q6 q7) X)) (hb : OkI (getR (q8 0 q0 q1 q2 q3 q4 q5 q6 q7) Y)) :
    ∃ u v w, apF (q8 0 q0 q1 q2 q3 q4 q5 q6 q7) 0 8 X X Y = (u, 0) ∧ SmallT u ∧ apF u 0 8 Y X Y = (v, 0) ∧ SmallT v ∧ apF v 0 8 X X Y = (w, 0) ∧
      ∀ k : Int, 0 ≤ k ∧ k < 8 → getR w k = if Y = k then getR (q8 0 q0 q1 q2 q3 q4 q5 q6 q7) X else if X = k then getR (q8 0 q0 q1 q2 q3 q4 q5 q6 q7) Y else getR (q8 0 q0 q1 q2 q3 q4 q5 q6 q7) k := by
  have h0 : Calm (q8 0 q0 q1 q2 q3 q4 q5 q6 q7) 0 := Calm.start
  generalize q8 0 q0 q1 q2 q3 q4 q5 q6 q7 = t at *
  have e1 := h0.go (by decide) (op := 8) (by decide) (may3 (by decide) hX hX hY)
  have c1 := h0.next e1 (by show t.pc + 1 = _; rw [h0.pc])
  have e2 := c1.go (by decide) (op := 8) (by decide) (may3 (by decide) hY hX hY)
  have c2 := c1.next e2 (by show (opF t 0 8 X X Y).pc + 1 = _; rw [c1.pc])
  have e3 := c2.go (by decide) (op := 8) (by decide) (may3 (by decide) hX hX hY)
  refine ⟨_, _, _, e1, c1.small, e2, c2.small, e3, fun k hk => ?_⟩
  have hne' : ¬ Y = X := fun h => hne h.symm
  have g1 : getR (opF t 0 8 X X Y) X = Go.bits .xor .i64 (getR t X) (getR t Y) := getR_same hX
  have g2 : ∀ k, 0 ≤ k ∧ k < 8 → ¬ k = X → getR (opF t 0 8 X X Y) k = getR t k := fun k hk h => getR_oth hk h
  generalize opF t 0 8 X X Y = u at *
  have g3 : getR (opF u 0 8 Y X Y) Y = getR t X := by
    have : getR (opF u 0 8 Y X Y) Y = Go.bits .xor .i64 (getR u X) (getR u Y) := getR_same hY
    rw [this, g1, g2 Y hY hne', xor_back ha]
  have g4 : ∀ k, 0 ≤ k ∧ k < 8 → ¬ k = Y → getR (opF u 0 8 Y X Y) k = getR u k := fun k hk h => getR_oth hk h
  generalize opF u 0 8 Y X Y = v at *
  have g5 : getR (opF v 0 8 X X Y) X = getR t Y := by
    have : getR (opF v 0 8 X X Y) X = Go.bits .xor .i64 (getR v X) (getR v Y) := getR_same hX
    rw [this, g3, g4 X hX hne, g1, xor_over hb]
  have g6 : ∀ k, 0 ≤ k ∧ k < 8 → ¬ k = X → getR (opF v 0 8 X X Y) k = getR v k := fun k hk h => getR_oth hk h
  by_cases hk1 : Y = k
  · subst hk1
    rw [if_pos rfl, g6 _ hk hne', g3]
  · rw [if_neg hk1]
    by_cases hk2 : X = k
    · subst hk2
      rw [if_pos rfl, g5]
    · rw [if_neg hk2, g6 _ hk (fun h => hk2 h.symm), g4 _ hk (fun h => hk1 h.symm), g2 _ hk (fun h => hk2 h.symm)]
theorem sums_less (hX : 0 ≤ X ∧ X < 8) (hY : 0 ≤ Y ∧ Y < 8) : ∃ l m, apF (q8 0 q0 q1 q2 q3 q4 q5 q6 q7) 0 9 X X Y = (l, 0) ∧ apF (q8 0 q0 q1 q2 q3 q4 q5 q6 q7) 0 9 X Y X = (m, 0) ∧
    getR l X = (if getR (q8 0 q0 q1 q2 q3 q4 q5 q6 q7) X < getR (q8 0 q0 q1 q2 q3 q4 q5 q6 q7) Y then 1 else 0) ∧ getR m X = if getR (q8 0 q0 q1 q2 q3 q4 q5 q6 q7) Y < getR (q8 0 q0 q1 q2 q3 q4 q5 q6 q7) X then 1 else 0 := by
  have h0 : Calm (q8 0 q0 q1 q2 q3 q4 q5 q6 q7) 0 := Calm.start
  exact ⟨_, _, h0.go (by decide) (op := 9) (by decide) (may3 (by decide) hX hX hY), h0.go (by decide) (op := 9) (by decide) (may3 (by decide) hX hY hX), getR_same hX, getR_same hX⟩
theorem less_two (a b : Int) : IntKind.i64.wrap ((if a < b then 1 else 0) + (if b < a then 1 else 0)) = if a = b then 0 else 1 := by
  by_cases h1 : a < b
  · rw [if_pos h1, if_neg (by omega), if_neg (by omega)]; rfl
  · by_cases h2 : b < a
    · rw [if_neg h1, if_pos h2, if_neg (by omega)]; rfl
    · rw [if_neg h1, if_neg h2, if_pos (by omega)]; rfl
theorem less_one (a b : Int) : ¬ (IntKind.i64.wrap ((if a < b then 1 else 0) + (if b < a then 1 else 0)) > 1) := by
  rw [less_two]; split <;> omega
theorem less_eq (a b : Int) : (IntKind.i64.wrap ((if a < b then 1 else 0) + (if b < a then 1 else 0)) == 0) = (a == b) := by
  rw [less_two, Bool.eq_iff_iff, beq_iff_eq, beq_iff_eq]; split <;> omega
theorem jump_two {a z o : Int} (h : a = 0 ∧ z = 9 ∧ o = 1 ∨ ¬ a = 0 ∧ z = 1 ∧ o = 9) : IntKind.i64.wrap (z + o) = 10 ∧ true = ((z == 9) == (a == 0)) := by
  rcases h with ⟨rfl, rfl, rfl⟩ | ⟨h, rfl, rfl⟩
  · exact ⟨rfl, rfl⟩
  · refine ⟨rfl, ?_⟩
    rw [beq_eq_false_iff_ne.2 h]; rfl
theorem sums_jump (hX : 0 ≤ X ∧ X < 8) : ∃ z o, apF (q8 0 q0 q1 q2 q3 q4 q5 q6 q7) 0 11 X 9 0 = (z, 0) ∧ apF (q8 0 q0 q1 q2 q3 q4 q5 q6 q7) 0 12 X 9 0 = (o, 0) ∧
    (getR (q8 0 q0 q1 q2 q3 q4 q5 q6 q7) X = 0 ∧ z.pc = 9 ∧ o.pc = 1 ∨ ¬ getR (q8 0 q0 q1 q2 q3 q4 q5 q6 q7) X = 0 ∧ z.pc = 1 ∧ o.pc = 9) := by
  have h0 : Calm (q8 0 q0 q1 q2 q3 q4 q5 q6 q7) 0 := Calm.start
  refine ⟨_, _, h0.go (by decide) (op := 11) (by decide) (may12 (by decide) hX), h0.go (by decide) (op := 12) (by decide) (may12 (by decide) hX), ?_⟩
  show _ ∧ (if getR _ X = 0 then setPc _ 9 else setPc _ 1).pc = 9 ∧ (if getR _ X = 0 then setPc _ 1 else setPc _ 9).pc = 1 ∨ _ ∧ (if getR _ X = 0 then setPc _ 9 else setPc _ 1).pc = 1 ∧ (if getR _ X = 0 then setPc _ 1 else setPc _ 9).pc = 9
  by_cases h : getR (q8 0 q0 q1 q2 q3 q4 q5 q6 q7) X = 0
  · exact .inl ⟨h, by rw [if_pos h]; rfl, by rw [if_pos h]; rfl⟩
  · exact .inr ⟨h, by rw [if_neg h]; rfl, by rw [if_neg h]; rfl⟩
end Go.Eng
