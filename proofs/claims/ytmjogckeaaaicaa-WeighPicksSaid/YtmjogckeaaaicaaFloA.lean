/- Floats: which is less than which, and that a sum is not less than what was added to. -/
import Derived.Test.YtmjogckeaaaicaaEngC
set_option linter.unusedVariables false
set_option linter.unusedSimpArgs false
namespace Go.Eng
open Go

def fmag (r : Nat) : Nat := if r < 4503599627370496 then r else 4503599627370496 + r % 4503599627370496
def fex (r : Nat) : Nat := if r < 4503599627370496 then 0 else r / 4503599627370496 - 1
def fval (r : Nat) : Nat := fmag r * 2 ^ fex r
theorem fval_succ (r : Nat) : fval r < fval (r + 1) := by
  unfold fval fmag fex
  by_cases h : r + 1 < 4503599627370496
  · rw [if_pos h, if_pos h, if_pos (by omega), if_pos (by omega)]; simp
  rw [if_neg h, if_neg h]
  by_cases h2 : r < 4503599627370496
  · rw [if_pos h2, if_pos h2]
    have : r = 4503599627370495 := by omega
    subst this
    decide
  rw [if_neg h2, if_neg h2]
  by_cases h3 : r % 4503599627370496 + 1 < 4503599627370496
  · rw [show (r + 1) / 4503599627370496 = r / 4503599627370496 by omega, show (r + 1) % 4503599627370496 = r % 4503599627370496 + 1 by omega]
    exact Nat.mul_lt_mul_of_pos_right (by omega) (Nat.two_pow_pos _)
  · rw [show (r + 1) / 4503599627370496 - 1 = r / 4503599627370496 - 1 + 1 by omega, show (r + 1) % 4503599627370496 = 0 by omega, Nat.pow_succ]
    have hp := Nat.two_pow_pos (r / 4503599627370496 - 1)
    generalize 2 ^ (r / 4503599627370496 - 1) = p at hp
    have : (4503599627370496 + r % 4503599627370496) * p < (2 * 4503599627370496) * p := Nat.mul_lt_mul_of_pos_right (by omega) hp
    rw [Nat.add_zero]
    have e : 4503599627370496 * (p * 2) = 2 * 4503599627370496 * p := by rw [Nat.mul_comm p 2, ← Nat.mul_assoc, Nat.mul_comm 4503599627370496 2]
    rw [e]; exact this
theorem fval_lt {a b : Nat} (h : a < b) : fval a < fval b := by
  induction b with
  | zero => omega
  | succ n ih =>
    have h1 := fval_succ n
    by_cases e : a = n
    · rw [e]; exact h1
    · exact Nat.lt_trans (ih (by omega)) h1
theorem fval_0 : fval 0 = 0 := rfl
theorem fval_lt_iff {a b : Nat} : fval a < fval b ↔ a < b := by
  refine ⟨fun h => ?_, fval_lt⟩
  by_cases e : a < b
  · exact e
  · by_cases e2 : a = b
    · rw [e2] at h; omega
    · have := fval_lt (show b < a by omega); omega
theorem fval_eq_iff {a b : Nat} : fval a = fval b ↔ a = b := by
  refine ⟨fun h => ?_, fun h => by rw [h]⟩
  by_cases e : a < b
  · have := fval_lt e; omega
  · by_cases e2 : a = b
    · exact e2
    · have := fval_lt (show b < a by omega); omega
/-- A float's rung, with its sign. -/
def fNeg (w : Nat) : Bool := w / 9223372036854775808 % 2 == 1
def fRung (w : Nat) : Nat := w % 9223372036854775808
def fNan (w : Nat) : Bool := decide (9218868437227405312 < fRung w)
def skey (w : Nat) : Int := if fNeg w = true then -(fRung w : Int) else fRung w
def cmpI (a b : Int) : Ordering := if a < b then .lt else if a = b then .eq else .gt
theorem double_sw : Ieee.double.signWeight = 9223372036854775808 := by decide
theorem double_b : Ieee.double.binade = 4503599627370496 := by decide
theorem double_inf : Ieee.double.infRung = 9218868437227405312 := by decide
theorem read_is (w : Nat) : Ieee.double.read w = if fRung w < 9218868437227405312 then .number (fNeg w) (fmag (fRung w)) (Ieee.double.leastPlace + (fex (fRung w) : Nat)) else if fRung w = 9218868437227405312 then .infinity (fNeg w) else .nan (fNeg w) (fRung w - 9218868437227405312) := by
  unfold Ieee.Format.read
  rw [double_sw, double_b, double_inf]
  show (if fRung w < 4503599627370496 then Ieee.Datum.number (fNeg w) (fRung w) Ieee.double.leastPlace else if fRung w < 9218868437227405312 then Ieee.Datum.number (fNeg w) (4503599627370496 + fRung w % 4503599627370496) (Ieee.double.leastPlace + (fRung w / 4503599627370496 - 1 : Nat)) else if fRung w = 9218868437227405312 then .infinity (fNeg w) else .nan (fNeg w) (fRung w - 9218868437227405312)) = _
  unfold fmag fex
  by_cases h : fRung w < 4503599627370496
  · rw [if_pos h, if_pos (show fRung w < 9218868437227405312 by omega), if_pos h, if_pos h]; simp
  · rw [if_neg h, if_neg h, if_neg h]
def sgI (s : Bool) (x : Nat) : Int := if s = true then -(x : Int) else x
theorem signed_is (s : Bool) (m u : Nat) : Ieee.signed s m u = sgI s (m * 2 ^ u) := by
  unfold Ieee.signed sgI
  rw [Nat.shiftLeft_eq]
theorem cmp_is (a b : Int) : compare a b = cmpI a b := rfl
theorem cmpI_scale {a b a' b' c : Int} (hc : 0 < c) (ha : a' = a * c) (hb : b' = b * c) : cmpI a b = cmpI a' b' := by
  subst ha hb
  unfold cmpI
  have h1 : a < b ↔ a * c < b * c := (Int.mul_lt_mul_right hc).symm
  have h2 : a = b ↔ a * c = b * c := ⟨fun h => by rw [h], fun h => Int.eq_of_mul_eq_mul_right (by omega) h⟩
  by_cases e : a < b
  · rw [if_pos e, if_pos (h1.1 e)]
  · rw [if_neg e, if_neg (fun q => e (h1.2 q))]
    by_cases e2 : a = b
    · rw [if_pos e2, if_pos (h2.1 e2)]
    · rw [if_neg e2, if_neg (fun q => e2 (h2.2 q))]
theorem cmpI_sg {s t : Bool} {x y : Nat} : cmpI (sgI s (fval x)) (sgI t (fval y)) = cmpI (sgI s x) (sgI t y) := by
  have h1 := @fval_lt_iff x y
  have h2 := @fval_lt_iff y x
  have h3 := @fval_eq_iff x y
  have h4 := @fval_eq_iff x 0
  have h5 := @fval_eq_iff y 0
  rw [fval_0] at h4 h5
  generalize fval x = X at *
  generalize fval y = Y at *
  unfold cmpI sgI
  cases s <;> cases t <;> simp only [if_true, if_false, Bool.false_eq_true]
  · have e1 : ((X : Int) < Y) ↔ ((x : Int) < y) := by omega
    have e2 : ((X : Int) = Y) ↔ ((x : Int) = y) := by omega
    simp only [e1, e2]
  · have e1 : ((X : Int) < -(Y : Int)) ↔ ((x : Int) < -(y : Int)) := by omega
    have e2 : ((X : Int) = -(Y : Int)) ↔ ((x : Int) = -(y : Int)) := by omega
    simp only [e1, e2]
  · have e1 : (-(X : Int) < Y) ↔ (-(x : Int) < y) := by omega
    have e2 : (-(X : Int) = Y) ↔ (-(x : Int) = y) := by omega
    simp only [e1, e2]
  · have e1 : (-(X : Int) < -(Y : Int)) ↔ (-(x : Int) < -(y : Int)) := by omega
    have e2 : (-(X : Int) = -(Y : Int)) ↔ (-(x : Int) = -(y : Int)) := by omega
    simp only [e1, e2]
theorem sgI_mul (s : Bool) (x c : Nat) : sgI s (x * c) = sgI s x * c := by
  unfold sgI
  split
  · rw [Int.natCast_mul, Int.neg_mul]
  · rw [Int.natCast_mul]
theorem skey_sg (w : Nat) : skey w = sgI (fNeg w) (fRung w) := rfl
theorem order_num (s t : Bool) (x y : Nat) (L : Int) : Ieee.Datum.order (.number s (fmag x) (L + (fex x : Nat))) (.number t (fmag y) (L + (fex y : Nat))) = some (cmpI (sgI s x) (sgI t y)) := by
  unfold Ieee.Datum.order
  simp only [signed_is, cmp_is]
  have e1 : (L + (fex x : Int) - min (L + (fex x : Int)) (L + (fex y : Int))).toNat = fex x - min (fex x) (fex y) := by omega
  have e2 : (L + (fex y : Int) - min (L + (fex x : Int)) (L + (fex y : Int))).toNat = fex y - min (fex x) (fex y) := by omega
  rw [e1, e2]
  have hc : ((2 ^ min (fex x) (fex y) : Nat) : Int) > 0 := by have := Nat.two_pow_pos (min (fex x) (fex y)); omega
  have key : ∀ (q : Nat), min (fex x) (fex y) ≤ fex q → ∀ s, sgI s (fval q) = sgI s (fmag q * 2 ^ (fex q - min (fex x) (fex y))) * ((2 ^ min (fex x) (fex y) : Nat) : Int) := by
    intro q hq s
    rw [← sgI_mul]
    unfold fval
    rw [Nat.mul_assoc, ← Nat.pow_add, show fex q - min (fex x) (fex y) + min (fex x) (fex y) = fex q by omega]
  rw [cmpI_scale hc (key x (by omega) s) (key y (by omega) t), cmpI_sg]
theorem order_is (a b : Nat) : Ieee.double.order a b = if fNan a = true ∨ fNan b = true then none else some (cmpI (skey a) (skey b)) := by
  unfold Ieee.Format.order
  rw [read_is, read_is, skey_sg, skey_sg]
  unfold fNan
  simp only [decide_eq_true_eq]
  generalize fNeg a = s
  generalize fNeg b = t
  generalize fRung a = x
  generalize fRung b = y
  by_cases hx : x < 9218868437227405312
  · rw [if_pos hx]
    by_cases hy : y < 9218868437227405312
    · rw [if_pos hy, if_neg (by omega)]
      exact order_num s t x y _
    · rw [if_neg hy]
      by_cases hy2 : y = 9218868437227405312
      · rw [if_pos hy2, if_neg (by omega)]
        subst hy2
        show some (if t = true then Ordering.gt else Ordering.lt) = some _
        unfold cmpI sgI
        congr 1
        cases s <;> cases t <;> simp only [if_true, if_false, Bool.false_eq_true]
        · rw [if_pos (by omega)]
        · rw [if_neg (by omega), if_neg (by omega)]
        · rw [if_pos (by omega)]
        · rw [if_neg (by omega), if_neg (by omega)]
      · rw [if_neg hy2, if_pos (by omega)]; rfl
  · rw [if_neg hx]
    by_cases hx2 : x = 9218868437227405312
    · rw [if_pos hx2]
      by_cases hy : y < 9218868437227405312
      · rw [if_pos hy, if_neg (by omega)]
        subst hx2
        show some (if s = true then Ordering.lt else Ordering.gt) = some _
        unfold cmpI sgI
        congr 1
        cases s <;> cases t <;> simp only [if_true, if_false, Bool.false_eq_true]
        · rw [if_neg (by omega), if_neg (by omega)]
        · rw [if_neg (by omega), if_neg (by omega)]
        · rw [if_pos (by omega)]
        · rw [if_pos (by omega)]
      · rw [if_neg hy]
        by_cases hy2 : y = 9218868437227405312
        · rw [if_pos hy2, if_neg (by omega)]
          subst hx2 hy2
          cases s <;> cases t <;> rfl
        · rw [if_neg hy2, if_pos (by omega)]; rfl
    · rw [if_neg hx2]
      have e : 9218868437227405312 < x ∨ 9218868437227405312 < y := .inl (by omega)
      rw [if_pos e]
      split
      · rfl
      · split <;> rfl
theorem fEq_is (a b : Nat) : fEq a b = decide (fNan a = false ∧ fNan b = false ∧ skey a = skey b) := by
  unfold fEq
  rw [order_is]
  unfold cmpI
  cases fNan a <;> cases fNan b <;> simp
  · split
    · rename_i h; simp; omega
    · split <;> simp_all
theorem fLt_is (a b : Nat) : fLt a b = decide (fNan a = false ∧ fNan b = false ∧ skey a < skey b) := by
  unfold fLt
  rw [order_is]
  unfold cmpI
  cases fNan a <;> cases fNan b <;> simp
  · split
    · simp_all
    · split <;> simp_all
theorem fGt_is (a b : Nat) : fGt a b = decide (fNan a = false ∧ fNan b = false ∧ skey b < skey a) := by
  unfold fGt
  rw [order_is]
  unfold cmpI
  cases fNan a <;> cases fNan b <;> simp
  · split
    · simp; omega
    · split
      · simp; omega
      · simp; omega
end Go.Eng
