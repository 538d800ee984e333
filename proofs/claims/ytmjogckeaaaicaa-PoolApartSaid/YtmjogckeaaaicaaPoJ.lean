/- A pool whose blocks are taken, and given back in any order. -/
import Derived.Test.YtmjogckeaaaicaaPoI
set_option linter.unusedVariables false
set_option linter.unusedSimpArgs false
namespace Go.Eng
open Go Go.Proofs

section
variable {s b m : Int}
abbrev bl (s b m : Int) : List Int := plB (s, b, m, [])
theorem bl_len : (bl s b m).length = m.toNat := plB_len _
theorem bl_get {k : Nat} (h : k < m.toNat) : (bl s b m).getD k 0 = b + (k : Int) * s := plB_get (p := (s, b, m, [])) h
theorem rev_get {k : Nat} (h : k < m.toNat) : (bl s b m).reverse.getD ((bl s b m).reverse.length - 1 - k) 0 = b + (k : Int) * s := by
  rw [List.length_reverse, bl_len, ← bl_get h, List.getD_eq_getElem?_getD, List.getD_eq_getElem?_getD, List.getElem?_reverse (by rw [bl_len]; omega), bl_len]
  congr 2
  omega
/-- Behind so many takes. -/
abbrev fre (s b m : Int) (k : Nat) : List Int := takes (bl s b m).reverse k
theorem fre_len (k : Nat) : (fre s b m k).length = m.toNat - k := by rw [takes_len, List.length_reverse, bl_len]
theorem fre_take (hz : sizeP s b m = true) {k : Nat} (h : k < m.toNat) : takeP (s, b, m, fre s b m k) = ((s, b, m, fre s b m (k + 1)), b + (k : Int) * s, 0) := by
  have := takes_go (plR_new hz) (k := k) (by rw [List.length_reverse, bl_len]; exact h)
  rw [this, rev_get h]
theorem fre_is (N : Nat) : fre s b m N = ((bl s b m).drop N).reverse := by
  unfold fre takes
  rw [List.take_reverse, List.length_reverse]
  by_cases h : N ≤ (bl s b m).length
  · rw [show (bl s b m).length - ((bl s b m).length - N) = N by omega]
  · rw [show (bl s b m).length - ((bl s b m).length - N) = (bl s b m).length by omega, List.drop_eq_nil_of_le (Nat.le_refl _), List.drop_eq_nil_of_le (by omega)]
theorem fre_mem {N : Nat} {x : Int} : x ∈ fre s b m N ↔ ∃ k : Nat, N ≤ k ∧ k < m.toNat ∧ b + (k : Int) * s = x := by
  rw [fre_is, List.mem_reverse, List.mem_drop_iff_getElem]
  constructor
  · rintro ⟨i, hi, e⟩
    have hi' : i + N < (bl s b m).length := by omega
    rw [bl_len] at hi'
    refine ⟨i + N, by omega, hi', ?_⟩
    rw [← bl_get hi', ← e, List.getD_eq_getElem?_getD, List.getElem?_eq_getElem hi]
    simp only [Option.getD_some]
    congr 1
    omega
  · rintro ⟨k, h1, h2, e⟩
    refine ⟨k - N, by rw [bl_len]; omega, ?_⟩
    rw [← e, ← bl_get h2, List.getD_eq_getElem?_getD, List.getElem?_eq_getElem (by rw [bl_len]; omega)]
    simp only [Option.getD_some]
    congr 1
    omega
theorem bl_inj (h : 1 ≤ s) {i j : Nat} (e : b + (i : Int) * s = b + (j : Int) * s) : i = j := by
  have e2 : (i : Int) * s = (j : Int) * s := by omega
  have := Int.eq_of_mul_eq_mul_right (by omega) e2
  omega
theorem held_is (h : 1 ≤ s) (N : Nat) (l : List Int) : heldF (s, b, m, l) (fre s b m N) = (bl s b m).take N := by
  show (bl s b m).filter (fun x => !(fre s b m N).contains x) = _
  have e : (bl s b m).filter (fun x => !(fre s b m N).contains x) = ((bl s b m).take N ++ (bl s b m).drop N).filter (fun x => !(fre s b m N).contains x) := by rw [List.take_append_drop]
  rw [e, List.filter_append]
  have e1 : ((bl s b m).take N).filter (fun x => !(fre s b m N).contains x) = (bl s b m).take N := by
    rw [List.filter_eq_self]
    intro x hx
    obtain ⟨i, hi0, e⟩ := List.mem_iff_getElem.1 hx
    have hi : i < N ∧ i < m.toNat := by
      have := hi0
      rw [List.length_take, bl_len] at this
      omega
    rw [List.getElem_take] at e
    have e : b + (i : Int) * s = x := by
      rw [← bl_get (s := s) (b := b) (m := m) (k := i) (by omega), ← e, List.getD_eq_getElem?_getD, List.getElem?_eq_getElem (by rw [bl_len]; omega)]; rfl
    cases hc : (fre s b m N).contains x with
    | false => rfl
    | true =>
      obtain ⟨k, h1, h2, e'⟩ := fre_mem.1 (List.contains_iff_mem.1 hc)
      have := bl_inj h (e.trans e'.symm)
      omega
  have e2 : ((bl s b m).drop N).filter (fun x => !(fre s b m N).contains x) = [] := by
    rw [List.filter_eq_nil_iff]
    intro x hx
    have : x ∈ fre s b m N := by rw [fre_is, List.mem_reverse]; exact hx
    rw [List.contains_iff_mem.2 this]
    simp
  rw [e1, e2, List.append_nil]
/-- The place in which the i-th one is given back. -/
def idxT (t N : Int) (i : Nat) : Int := (((i : Int) + t.tmod 16).tmod N + N).tmod N
theorem tmod16 (t : Int) : -16 < t.tmod 16 ∧ t.tmod 16 < 16 := by
  have := Int.tmod_lt_of_pos t (b := 16) (by omega)
  have := Int.lt_tmod_of_pos t (b := 16) (by omega)
  omega
theorem emod_tmod (x : Int) {N : Int} : x.tmod N % N = x % N := by
  have h := Int.mul_tdiv_add_tmod x N
  conv => rhs; rw [← h]
  rw [Int.add_comm, Int.add_mul_emod_self_left]
theorem idxT_is (t : Int) {N : Int} (hN : 0 < N) (i : Nat) : idxT t N i = ((i : Int) + t.tmod 16) % N := by
  have h1 := Int.tmod_lt_of_pos ((i : Int) + t.tmod 16) hN
  have h2 := Int.lt_tmod_of_pos ((i : Int) + t.tmod 16) hN
  unfold idxT
  rw [Int.tmod_eq_emod_of_nonneg (by omega), Int.add_emod_right, emod_tmod]
theorem idxT_ok (t : Int) {N : Int} (hN : 0 < N) (i : Nat) : 0 ≤ idxT t N i ∧ idxT t N i < N := by
  rw [idxT_is t hN]
  exact ⟨Int.emod_nonneg _ (by omega), Int.emod_lt_of_pos _ hN⟩
theorem idxT_inj {t N : Int} (hN : 0 < N) {i j : Nat} (hij : i < j) (hj : (j : Int) < N) : ¬ idxT t N i = idxT t N j := by
  intro e
  rw [idxT_is t hN, idxT_is t hN] at e
  have := Int.emod_eq_emod_iff_emod_sub_eq_zero.1 e.symm
  rw [show (j : Int) + t.tmod 16 - (i + t.tmod 16) = (j : Int) - i by omega, Int.emod_eq_of_lt (by omega) (by omega)] at this
  omega
/-- What is free behind so many that were given back. -/
def gv (s b m : Int) (N : Nat) (t : Int) : Nat → List Int
  | 0 => fre s b m N
  | i + 1 => gv s b m N t i ++ [b + idxT t N i * s]
theorem gv_len (N : Nat) (t : Int) : ∀ i, (gv s b m N t i).length = m.toNat - N + i
  | 0 => fre_len N
  | i + 1 => by rw [gv, List.length_append, gv_len N t i]; rfl
theorem gv_mem {N : Nat} {t : Int} {x : Int} : ∀ i, x ∈ gv s b m N t i ↔ x ∈ fre s b m N ∨ ∃ j, j < i ∧ x = b + idxT t N j * s
  | 0 => by
    rw [gv]
    exact ⟨.inl, fun h => h.elim id fun ⟨j, hj, _⟩ => by omega⟩
  | i + 1 => by
    rw [gv, List.mem_append, gv_mem i, List.mem_singleton]
    constructor
    · rintro ((h | ⟨j, hj, e⟩) | h)
      · exact .inl h
      · exact .inr ⟨j, by omega, e⟩
      · exact .inr ⟨i, by omega, h⟩
    · rintro (h | ⟨j, hj, e⟩)
      · exact .inl (.inl h)
      · by_cases hji : j = i
        · subst hji; exact .inr e
        · exact .inl (.inr ⟨j, by omega, e⟩)
/-- What holds as they are given back. -/
theorem gv_new (h : 1 ≤ s) {N : Nat} (hN : N ≤ m.toNat) (t : Int) {i : Nat} (hi : i < N) : (gv s b m N t i).contains (b + idxT t N i * s) = false := by
  cases hc : (gv s b m N t i).contains (b + idxT t N i * s) with
  | false => rfl
  | true =>
    have hp : (0 : Int) < (N : Int) := by omega
    have hk := idxT_ok t hp i
    have e0 : (((idxT t N i).toNat : Nat) : Int) = idxT t N i := by omega
    rcases (gv_mem i).1 (List.contains_iff_mem.1 hc) with hm | ⟨j, hj, e⟩
    · obtain ⟨k, h1, h2, e⟩ := fre_mem.1 hm
      rw [← e0] at e
      have := bl_inj h e
      omega
    · have hkj := idxT_ok t hp j
      have e1 : (((idxT t N j).toNat : Nat) : Int) = idxT t N j := by omega
      rw [← e0, ← e1] at e
      have := bl_inj h e
      have h3 : idxT t N j = idxT t N i := by omega
      exact (idxT_inj hp hj (by omega) h3).elim
theorem bl_has {N : Nat} (hN : N ≤ m.toNat) (t : Int) {i : Nat} (hi : i < N) (l : List Int) : (plB (s, b, m, l)).contains (b + idxT t N i * s) = true := by
  have hp : (0 : Int) < (N : Int) := by omega
  have hk := idxT_ok t hp i
  exact plB_mem.2 ⟨(idxT t N i).toNat, by show _ < m.toNat; omega, by
    have e0 : (((idxT t N i).toNat : Nat) : Int) = idxT t N i := by omega
    show b + (((idxT t N i).toNat : Nat) : Int) * s = _
    rw [e0]⟩
theorem gv_right (hz : sizeP s b m = true) {N : Nat} (hN : N ≤ m.toNat) (t : Int) : ∀ i, i ≤ N → plR (s, b, m, gv s b m N t i) = true
  | 0, _ => plR_takes (plR_new hz) N
  | i + 1, h => plR_give (gv_right hz hN t i (by omega)) (bl_has hN t (by omega) _) (gv_new (sizeP_ok hz []).s1 hN t (by omega))
theorem gv_go (hz : sizeP s b m = true) {N : Nat} (hN : N ≤ m.toNat) (t : Int) {i : Nat} (h : i < N) : giveP (s, b, m, gv s b m N t i) (b + idxT t N i * s) = ((s, b, m, gv s b m N t (i + 1)), 0) :=
  giveP_go (gv_right hz hN t i (by omega)) (bl_has hN t h _) (gv_new (sizeP_ok hz []).s1 hN t h)
theorem gv_twice (hz : sizeP s b m = true) {N : Nat} (hN : N ≤ m.toNat) (t : Int) {i : Nat} (h : i < N) : giveP (s, b, m, gv s b m N t (i + 1)) (b + idxT t N i * s) = (pl0, 5) := by
  refine giveP_twice (gv_right hz hN t (i + 1) (by omega)) (bl_has hN t h _) (List.contains_iff_mem.2 ?_)
  show _ ∈ gv s b m N t i ++ [_]
  simp
theorem held_none (hz : sizeP s b m = true) {N : Nat} (hN : N ≤ m.toNat) (t : Int) (l : List Int) : heldF (s, b, m, l) (gv s b m N t N) = [] := by
  show (bl s b m).filter (fun x => !(gv s b m N t N).contains x) = []
  rw [List.filter_eq_nil_iff]
  intro x hx
  cases hc : (gv s b m N t N).contains x with
  | true => simp
  | false =>
    exfalso
    obtain ⟨_, h2, h3⟩ := plR_all.1 (gv_right hz hN t N (Nat.le_refl _))
    have h2 : (gv s b m N t N).Nodup := h2
    have h3 : ∀ y ∈ gv s b m N t N, (bl s b m).contains y = true := h3
    have := len_le_of (x :: gv s b m N t N) (bl s b m) (by
      rw [List.nodup_cons]
      exact And.intro (fun hm => Bool.noConfusion ((List.contains_iff_mem.2 hm).symm.trans hc)) h2) (fun y hy => (List.mem_cons.1 hy).elim (fun e => by rw [e]; exact hx) fun hy => List.contains_iff_mem.1 (h3 y hy))
    rw [List.length_cons, gv_len, bl_len] at this
    omega
end
end Go.Eng
