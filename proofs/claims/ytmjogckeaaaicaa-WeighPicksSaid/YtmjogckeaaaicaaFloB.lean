/- Floats: a sum is not less than what was added to. -/
import Derived.Test.YtmjogckeaaaicaaFloA
set_option linter.unusedVariables false
set_option linter.unusedSimpArgs false
namespace Go.Eng
open Go

theorem word_pos (r : Nat) : Ieee.double.word false r = r := rfl
theorem nearest_le (T : Nat) (p : Int) : Ieee.double.nearest false T p ≤ 9218868437227405312 := by
  unfold Ieee.Format.nearest
  by_cases h : T = 0
  · rw [if_pos h, word_pos]; omega
  · rw [if_neg h]
    dsimp only
    rw [word_pos, double_inf]
    exact Nat.min_le_right _ _
theorem cut_ge (n d : Nat) : n / 2 ^ d ≤ Ieee.Toward.even.cut false n d := by
  unfold Ieee.Toward.cut
  dsimp only
  refine Nat.le_trans ?_ (Nat.le_add_right _ _)
  rw [Nat.shiftLeft_eq, Nat.one_mul]
  exact Nat.div_le_div_left (Nat.pow_le_pow_right (by omega) (Nat.min_le_left _ _)) (Nat.two_pow_pos _)
theorem rung_le {r V k : Nat} (h1 : 2 ^ k ≤ V) (h2 : V < 2 ^ (k + 1)) (h : fval r ≤ V) : r ≤ (k - 52) * 4503599627370496 + V / 2 ^ (k - 52) := by
  have big : 52 ≤ k → 4503599627370496 ≤ V / 2 ^ (k - 52) := by
    intro hk
    rw [Nat.le_div_iff_mul_le (Nat.two_pow_pos _)]
    refine Nat.le_trans ?_ h1
    rw [show 4503599627370496 = 2 ^ 52 by rfl, ← Nat.pow_add, show 52 + (k - 52) = k by omega]
    exact Nat.le_refl _
  unfold fval fmag fex at h
  by_cases hr : r < 4503599627370496
  · rw [if_pos hr, if_pos hr, Nat.pow_zero, Nat.mul_one] at h
    by_cases hk : k ≤ 52
    · rw [show k - 52 = 0 by omega, Nat.pow_zero, Nat.div_one]; omega
    · have := big (by omega); omega
  · rw [if_neg hr, if_neg hr] at h
    have hlt : 52 + (r / 4503599627370496 - 1) < k + 1 := by
      rw [← Nat.pow_lt_pow_iff_right (a := 2) (by omega)]
      refine Nat.lt_of_le_of_lt ?_ h2
      refine Nat.le_trans ?_ h
      rw [Nat.pow_add]
      exact Nat.mul_le_mul_right _ (by show 2 ^ 52 ≤ 4503599627370496 + r % 4503599627370496; have : (2 : Nat) ^ 52 = 4503599627370496 := rfl; omega)
    by_cases e : r / 4503599627370496 - 1 = k - 52
    · rw [e] at h
      have : 4503599627370496 + r % 4503599627370496 ≤ V / 2 ^ (k - 52) := by
        rw [Nat.le_div_iff_mul_le (Nat.two_pow_pos _)]; exact h
      omega
    · have := big (by omega)
      omega
theorem nearest_ge {T μ r : Nat} (hT : ¬ T = 0) (h : fval r ≤ T * 2 ^ μ) (hr : r ≤ 9218868437227405312) : r ≤ Ieee.double.nearest false T (Ieee.double.leastPlace + (μ : Int)) := by
  unfold Ieee.Format.nearest
  rw [if_neg hT]
  dsimp only
  rw [word_pos, double_inf, double_b]
  generalize Ieee.double.leastPlace = L
  have hf : Ieee.double.fractionBits = 52 := rfl
  rw [hf]
  have l1 : 2 ^ T.log2 ≤ T := Nat.log2_self_le hT
  have l2 : T < 2 ^ (T.log2 + 1) := Nat.lt_log2_self
  generalize T.log2 = k at *
  rw [show (max (L + (μ : Int) + (k : Int) - ((52 : Nat) : Int)) L - L).toNat = k + μ - 52 by omega, show (L + (μ : Int) - max (L + (μ : Int) + (k : Int) - ((52 : Nat) : Int)) L).toNat = μ - (k + μ - 52) by omega, show (max (L + (μ : Int) + (k : Int) - ((52 : Nat) : Int)) L - (L + (μ : Int))).toNat = (k + μ - 52) - μ by omega]
  have hV1 : 2 ^ (k + μ) ≤ T * 2 ^ μ := by rw [Nat.pow_add]; exact Nat.mul_le_mul_right _ l1
  have hV2 : T * 2 ^ μ < 2 ^ (k + μ + 1) := by
    rw [show k + μ + 1 = k + 1 + μ by omega, Nat.pow_add]
    exact Nat.mul_lt_mul_of_pos_right l2 (Nat.two_pow_pos _)
  have h1 := rung_le hV1 hV2 h
  have h2 := cut_ge (T <<< (μ - (k + μ - 52))) ((k + μ - 52) - μ)
  have h3 : (T <<< (μ - (k + μ - 52))) / 2 ^ ((k + μ - 52) - μ) = T * 2 ^ μ / 2 ^ (k + μ - 52) := by
    rw [Nat.shiftLeft_eq]
    generalize k + μ - 52 = e
    by_cases he : e ≤ μ
    · rw [show e - μ = 0 by omega, Nat.pow_zero, Nat.div_one]
      conv => rhs; rw [show μ = μ - e + e by omega, Nat.pow_add, ← Nat.mul_assoc]
      rw [Nat.mul_div_cancel _ (Nat.two_pow_pos _)]
    · rw [show μ - e = 0 by omega, Nat.pow_zero, Nat.mul_one]
      conv => rhs; rw [show e = (e - μ) + μ by omega, Nat.pow_add]
      rw [Nat.mul_div_mul_right _ _ (Nat.two_pow_pos _)]
  rw [h3] at h2
  clear h3 hV1 hV2 l1 l2 h
  generalize Ieee.Toward.even.cut false (T <<< (μ - (k + μ - 52))) ((k + μ - 52) - μ) = C at *
  generalize T * 2 ^ μ / 2 ^ (k + μ - 52) = K at *
  generalize k + μ - 52 = e at *
  exact Nat.le_min.2 ⟨Nat.le_trans h1 (Nat.add_le_add_left h2 _), hr⟩
theorem pos_rung {w : Nat} (h : w ≤ 9218868437227405312) : fRung w = w ∧ fNeg w = false ∧ fNan w = false ∧ skey w = w := by
  have e1 : fRung w = w := by unfold fRung; omega
  have e2 : fNeg w = false := by
    unfold fNeg
    rw [show w / 9223372036854775808 = 0 by omega]; rfl
  refine ⟨e1, e2, ?_, ?_⟩
  · unfold fNan; rw [e1]; exact decide_eq_false (by omega)
  · unfold skey; rw [e1, e2]; rfl
theorem read_num {w : Nat} (h : w < 9218868437227405312) : Ieee.double.read w = .number false (fmag w) (Ieee.double.leastPlace + (fex w : Nat)) := by
  obtain ⟨e1, e2, _⟩ := pos_rung (show w ≤ 9218868437227405312 by omega)
  rw [read_is, e1, e2, if_pos h]
theorem read_inf : Ieee.double.read 9218868437227405312 = .infinity false := by
  obtain ⟨e1, e2, _⟩ := pos_rung (show 9218868437227405312 ≤ 9218868437227405312 by omega)
  rw [read_is, e1, e2, if_neg (by omega), if_pos rfl]
theorem write_inf : Ieee.double.write (.infinity false) = 9218868437227405312 := by
  show Ieee.double.word false Ieee.double.infRung = _
  rw [word_pos, double_inf]
theorem add_is {b c : Nat} (hb : b ≤ 9218868437227405312) (hc : c ≤ 9218868437227405312) : ∃ r, Ieee.double.add b c = some r ∧ b ≤ r ∧ r ≤ 9218868437227405312 := by
  unfold Ieee.Format.add
  by_cases h1 : b = 9218868437227405312
  · subst h1
    rw [read_inf]
    by_cases h2 : c = 9218868437227405312
    · subst h2
      rw [read_inf]
      exact ⟨_, rfl, by rw [write_inf]; omega, by rw [write_inf]; omega⟩
    · rw [read_num (w := c) (by omega)]
      exact ⟨_, rfl, by rw [write_inf]; omega, by rw [write_inf]; omega⟩
  · rw [read_num (w := b) (by omega)]
    by_cases h2 : c = 9218868437227405312
    · subst h2
      rw [read_inf]
      exact ⟨_, rfl, by rw [write_inf]; omega, by rw [write_inf]; omega⟩
    · rw [read_num (w := c) (by omega)]
      refine ⟨_, rfl, ?_⟩
      generalize hL : Ieee.double.leastPlace = L
      have e1 : (L + (fex b : Int) - (L + (min (fex b) (fex c) : Nat))).toNat = fex b - min (fex b) (fex c) := by omega
      have e2 : (L + (fex c : Int) - (L + (min (fex b) (fex c) : Nat))).toNat = fex c - min (fex b) (fex c) := by omega
      have e3 : min (L + (fex b : Int)) (L + (fex c : Int)) = L + (min (fex b) (fex c) : Nat) := by omega
      simp only [signed_is, e3, e1, e2]
      have hs : sgI false (fmag b * 2 ^ (fex b - min (fex b) (fex c))) + sgI false (fmag c * 2 ^ (fex c - min (fex b) (fex c))) = ((fmag b * 2 ^ (fex b - min (fex b) (fex c)) + fmag c * 2 ^ (fex c - min (fex b) (fex c)) : Nat) : Int) := by
        unfold sgI; simp
      rw [hs]
      have hv : fval b ≤ (fmag b * 2 ^ (fex b - min (fex b) (fex c)) + fmag c * 2 ^ (fex c - min (fex b) (fex c))) * 2 ^ min (fex b) (fex c) := by
        rw [Nat.add_mul, Nat.mul_assoc, ← Nat.pow_add, show fex b - min (fex b) (fex c) + min (fex b) (fex c) = fex b by omega]
        exact Nat.le_add_right _ _
      generalize fmag b * 2 ^ (fex b - min (fex b) (fex c)) + fmag c * 2 ^ (fex c - min (fex b) (fex c)) = T at *
      have hn : (if (T : Int) = 0 then (false && false) else decide ((T : Int) < 0)) = false := by
        split
        · rfl
        · exact decide_eq_false (by omega)
      rw [hn, Int.natAbs_natCast]
      show b ≤ Ieee.double.nearest false T _ ∧ Ieee.double.nearest false T _ ≤ 9218868437227405312
      refine ⟨?_, nearest_le _ _⟩
      by_cases hT : T = 0
      · subst hT
        rw [Nat.zero_mul] at hv
        have : b = 0 := by
          rw [← fval_eq_iff, fval_0]; omega
        omega
      · rw [← hL]; exact nearest_ge hT hv hb
theorem fAdd_is {b c : Nat} (hb : b ≤ 9218868437227405312) (hc : c ≤ 9218868437227405312) : fAddOk b c = true ∧ b ≤ fAdd b c ∧ fAdd b c ≤ 9218868437227405312 := by
  obtain ⟨r, h, h1, h2⟩ := add_is hb hc
  unfold fAddOk fAdd
  rw [h]
  exact ⟨rfl, h1, h2⟩
theorem fDiv_is {w : Nat} (h0 : 0 < w) (hw : w ≤ 9218868437227405312) : fDivOk 4607182418800017408 w = true ∧ fDiv 4607182418800017408 w ≤ 9218868437227405312 := by
  have key : ∃ r, Ieee.double.div 4607182418800017408 w = some r ∧ r ≤ 9218868437227405312 := by
    unfold Ieee.Format.div
    rw [read_num (w := 4607182418800017408) (by omega)]
    by_cases h : w = 9218868437227405312
    · subst h
      rw [read_inf]
      exact ⟨_, rfl, nearest_le _ _⟩
    · rw [read_num (w := w) (by omega)]
      have hm : ¬ fmag w = 0 := by unfold fmag; split <;> omega
      unfold Ieee.Datum.quotient
      dsimp only
      rw [if_neg hm]
      exact ⟨_, rfl, nearest_le _ _⟩
  obtain ⟨r, h, h1⟩ := key
  unfold fDivOk fDiv
  rw [h]
  exact ⟨rfl, h1⟩
theorem fDiv_zero : fDivOk 4607182418800017408 0 = true ∧ fDiv 4607182418800017408 0 = 9218868437227405312 := by
  unfold fDivOk fDiv
  constructor <;> kernel_rfl
theorem fDiv_nzero : fDivOk 4607182418800017408 9223372036854775808 = true ∧ fDiv 4607182418800017408 9223372036854775808 = 18442240474082181120 := by
  unfold fDivOk fDiv
  constructor <;> kernel_rfl
end Go.Eng
