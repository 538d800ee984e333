/- Memory: words that are had and given back, and how many there are. -/
import Derived.Test.YtpcimaemigchiaaMemB
set_option linter.unusedVariables false
set_option linter.unusedSimpArgs false
namespace Go.Eng
open Go Go.Proofs

def Tags (ts : List Int) : Prop := ∀ i, i < ts.length → 0 ≤ ts.getD i default ∧ ts.getD i default ≤ 2
theorem memR_tags {ws ts : List Int} (h : memR ws ts = true) : Tags ts := fun i hi => by
  have := okT_true.1 ((memR_iff.1 h).2.2.2 i hi)
  omega
theorem getD_set_eq {l : List Int} {i : Nat} {x : Int} (h : i < l.length) : (l.set i x).getD i default = x := by simp [List.getD_eq_getElem?_getD, h]
theorem getD_set_ne {l : List Int} {i j : Nat} {x : Int} (h : i ≠ j) : (l.set i x).getD j default = l.getD j default := by
  simp only [List.getD_eq_getElem?_getD]
  rw [List.getElem?_set_ne h]
theorem Tags.set {ts : List Int} (h : Tags ts) {i : Nat} {x : Int} (hx : 0 ≤ x ∧ x ≤ 2) : Tags (ts.set i x) := fun j hj => by
  have hj : j < ts.length := by simpa using hj
  by_cases e : i = j
  · subst e; rw [getD_set_eq hj]; exact hx
  · rw [getD_set_ne e]; exact h j hj
theorem markN_next {tag : Int} {ts : List Int} {p n : Nat} (hn : 0 < n) (h : markE tag (ts.getD p default) = 0) : markN tag ts p n = markN tag (ts.set p tag) (p + 1) (n - 1) := by
  obtain ⟨m, rfl⟩ : ∃ m, n = m + 1 := ⟨n - 1, by omega⟩
  rw [markN, if_pos h]; rfl
theorem markN_stop {tag : Int} {ts : List Int} {p n : Nat} (hn : 0 < n) (h : markE tag (ts.getD p default) ≠ 0) : markN tag ts p n = ([], markE tag (ts.getD p default)) := by
  obtain ⟨m, rfl⟩ : ∃ m, n = m + 1 := ⟨n - 1, by omega⟩
  rw [markN, if_neg h]
theorem markF_arg {ws ts : List Int} {a n tag : Int} (h : ¬ (memR ws ts = true ∧ (tag = 1 ∨ tag = 2))) : markF ws ts a n tag = (([], []), 1) := by rw [markF, if_neg h]
theorem markF_range {ws ts : List Int} {a n tag : Int} (h : memR ws ts = true) (h1 : tag = 1 ∨ tag = 2) (h2 : n < 1 ∨ a < 0 ∨ ws.length ≤ a ∨ ws.length - a < n) : markF ws ts a n tag = (([], []), 3) := by rw [markF, if_pos ⟨h, h1⟩, if_pos h2]
theorem markF_go {ws ts : List Int} {a n tag : Int} (h : memR ws ts = true) (h1 : tag = 1 ∨ tag = 2) (h2 : ¬ (n < 1 ∨ a < 0 ∨ ws.length ≤ a ∨ ws.length - a < n)) : markF ws ts a n tag =
    if (markN tag ts a.toNat n.toNat).2 = 0 then ((ws, (markN tag ts a.toNat n.toNat).1), 0) else (([], []), (markN tag ts a.toNat n.toNat).2) := by rw [markF, if_pos ⟨h, h1⟩, if_neg h2]

structure MarkI (ts : List Int) (tag : Int) (p n : Nat) (s : Nat × List Int) : Prop where
  hk : s.1 ≤ n
  hl : s.2.length = ts.length
  ht : Tags s.2
  run : markN tag ts p n = markN tag s.2 (p + s.1) (n - s.1)
  far : ∀ i, p + s.1 ≤ i → s.2.getD i default = ts.getD i default

theorem MarkI.step {ts : List Int} {tag : Int} {p n k : Nat} {l : List Int} (h : MarkI ts tag p n (k, l)) (hk : k < n) (hp : p + n ≤ ts.length) (htag : tag = 1 ∨ tag = 2) (he : markE tag (l.getD (p + k) default) = 0) : MarkI ts tag p n (k + 1, l.set (p + k) tag) where
  hk := hk
  hl := by simpa using h.hl
  ht := h.ht.set (by omega)
  run := by
    have := h.run
    rw [this]
    show markN tag l (p + k) (n - k) = _
    rw [markN_next (by omega) he]
    show markN tag (l.set (p + k) tag) (p + k + 1) (n - k - 1) = markN tag (l.set (p + k) tag) (p + (k + 1)) (n - (k + 1))
    rw [show p + k + 1 = p + (k + 1) by omega, show n - k - 1 = n - (k + 1) by omega]
  far := fun i hi => by
    have hi : p + (k + 1) ≤ i := hi
    show (l.set (p + k) tag).getD i default = _
    rw [getD_set_ne (by omega)]
    exact h.far i (show p + k ≤ i by omega)
theorem MarkI.stop {ts : List Int} {tag : Int} {p n k : Nat} {l : List Int} (h : MarkI ts tag p n (k, l)) (hk : k < n) {e : Int} (he : markE tag (l.getD (p + k) default) = e) (h0 : e ≠ 0) : markN tag ts p n = ([], e) := by
  rw [h.run]
  show markN tag l (p + k) (n - k) = _
  rw [markN_stop (by omega) (by rw [he]; exact h0), he]
theorem MarkI.done {ts : List Int} {tag : Int} {p n k : Nat} {l : List Int} (h : MarkI ts tag p n (k, l)) (hk : ¬ k < n) : markN tag ts p n = (l, 0) := by
  have h1 : k = n := by have : k ≤ n := h.hk; omega
  rw [h.run]
  show markN tag l (p + k) (n - k) = _
  rw [h1, Nat.sub_self]; rfl
theorem MarkI.start {ts : List Int} {tag : Int} {p n : Nat} (h : Tags ts) : MarkI ts tag p n (0, ts) := ⟨Nat.zero_le _, rfl, h, rfl, fun _ _ => rfl⟩

set_option maxHeartbeats 8000000 in
set_option maxRecDepth 100000 in
theorem mark_ok : Meets Try.prog 35 sMark := by
  refine meets_plain M3_ok rfl [5] (fn := Try.f35) rfl rfl rfl (by decide) fun ⟨ws, ts, a, n, tag⟩ _ => ?_
  repeat' (first | (intro h; first | exact Bool.noConfusion h | (guard_hyp h : true = true; clear h) | (guard_hyp h : false = false; clear h) | (simp only [decide_eq_true_eq, decide_eq_false_iff_not, beq_iff_eq, beq_eq_false_iff_ne, bne_iff_ne, bne_eq_false_iff_eq, Bool.not_eq_true', Bool.not_eq_false', ne_eq, Classical.not_not, Bool.not_true, Bool.not_false, beqL_iff, beqL_ff, List.cons.injEq, and_true] at h) | skip) | ((conv => whnf) <;> (first | exact True.intro | apply br_rec | apply And.intro | apply EntP.k0 | apply EntP.k1 | apply EntP.k2 | apply EntP.k3 | apply EntP.k4 | apply EntP.k5 | apply EntP.k6 | apply DrawP.go | (apply AnyP.mk; kernel_rfl) | (refine AggP.go 2 rfl (by kernel_rfl) ?_) | (refine AggP.go 1 rfl (by kernel_rfl) ?_) | (refine AggP.go 3 rfl (by kernel_rfl) ?_) | (refine AggP.go 4 rfl (by kernel_rfl) ?_) | (refine AggP.go 5 rfl (by kernel_rfl) ?_) | (refine AggP.go 8 rfl (by kernel_rfl) ?_) | (refine AggP.go 11 rfl (by kernel_rfl) ?_) | apply CallP.own0 | apply CallP.own1 | apply CallP.own2 | apply CallP.own3 | apply CallP.nb | apply CutE.go0 | apply CutE.go7 | apply CutE.go6 | apply CutE.go5 | apply CutE.go4 | apply CutE.go3 | apply CutE.go2 | apply CutE.go1 | apply RoP.id | apply wrapS | (with_reducible exact lenNil) | apply Eq.refl)) | ((first | (with_reducible show rvEq _ _ _ _) | (with_reducible show svEq _ _ _ _) | (with_reducible show cellEq _ _ _ _) | (with_reducible show blkEq _ _ _)); conv => whnf))
  apply CutP.up (G := Unit) (fun _ => memR ws ts = true ∧ (tag = 1 ∨ tag = 2) ∧ ¬ (n < 1 ∨ a < 0 ∨ ws.length ≤ a ∨ ws.length - a < n)) [1, 2, 3, 4, 8] (fun _ => []) (fun _ => []) 2
  apply And.intro
  · repeat' (first | (intro h; first | exact Bool.noConfusion h | (guard_hyp h : true = true; clear h) | (guard_hyp h : false = false; clear h) | (simp only [decide_eq_true_eq, decide_eq_false_iff_not, beq_iff_eq, beq_eq_false_iff_ne, bne_iff_ne, bne_eq_false_iff_eq, Bool.not_eq_true', Bool.not_eq_false', ne_eq, Classical.not_not, Bool.not_true, Bool.not_false, beqL_iff, beqL_ff, List.cons.injEq, and_true] at h) | skip) | ((conv => whnf) <;> (first | exact True.intro | apply br_rec | apply And.intro | apply EntP.k0 | apply EntP.k1 | apply EntP.k2 | apply EntP.k3 | apply EntP.k4 | apply EntP.k5 | apply EntP.k6 | apply DrawP.go | (apply AnyP.mk; kernel_rfl) | (refine AggP.go 2 rfl (by kernel_rfl) ?_) | (refine AggP.go 1 rfl (by kernel_rfl) ?_) | (refine AggP.go 3 rfl (by kernel_rfl) ?_) | (refine AggP.go 4 rfl (by kernel_rfl) ?_) | (refine AggP.go 5 rfl (by kernel_rfl) ?_) | (refine AggP.go 8 rfl (by kernel_rfl) ?_) | (refine AggP.go 11 rfl (by kernel_rfl) ?_) | apply CallP.own0 | apply CallP.own1 | apply CallP.own2 | apply CallP.own3 | apply CallP.nb | apply CutE.go0 | apply CutE.go7 | apply CutE.go6 | apply CutE.go5 | apply CutE.go4 | apply CutE.go3 | apply CutE.go2 | apply CutE.go1 | apply RoP.id | apply wrapS | (with_reducible exact lenNil) | apply Eq.refl)) | ((first | (with_reducible show rvEq _ _ _ _) | (with_reducible show svEq _ _ _ _) | (with_reducible show cellEq _ _ _ _) | (with_reducible show blkEq _ _ _)); conv => whnf))
    all_goals have w1 : memR ws ts = true → 0 ≤ a → a < ws.length → IntKind.i64.wrap (ws.length - a) = ws.length - a := fun h h1 h2 => wrap_i64 (by have := memR_iff.1 h; omega)
    all_goals try simp only [w1 (by assumption) (by omega) (by omega)] at *
    all_goals try simp only [Int.toNat_natCast, Int.toNat_zero, ge_iff_le, gt_iff_lt, Int.ofNat_le, Int.ofNat_lt, Int.ofNat_inj] at *
    all_goals first
      | omega
      | (dsimp only; omega)
      | assumption
      | exact Up.zero _
      | (show ((8 : Nat) : Int) * _ ≤ _; omega)
      | (show _ * (8 : Nat) ≤ _; omega)
      | (show _ * (16 : Nat) ≤ _; omega)
      | (show _ * (24 : Nat) ≤ _; omega)
      | (rw [markF_arg (fun h => absurd h.1 (by simp only [*]; decide)) ] <;> rfl)
      | (rw [markF_arg (fun h => by omega) ] <;> rfl)
      | (rw [markF_range (by assumption) (by omega) (by omega) ] <;> rfl)
      | trace_state
  rintro ⟨⟩ ⟨hm, htag, hr⟩
  obtain ⟨p, rfl⟩ : ∃ p : Nat, a = p := ⟨a.toNat, by omega⟩
  obtain ⟨c, rfl⟩ : ∃ c : Nat, n = c := ⟨n.toNat, by omega⟩
  have hn := memR_iff.1 hm
  repeat' (first | (intro h; first | exact Bool.noConfusion h | (guard_hyp h : true = true; clear h) | (guard_hyp h : false = false; clear h) | (simp only [decide_eq_true_eq, decide_eq_false_iff_not, beq_iff_eq, beq_eq_false_iff_ne, bne_iff_ne, bne_eq_false_iff_eq, Bool.not_eq_true', Bool.not_eq_false', ne_eq, Classical.not_not, Bool.not_true, Bool.not_false, beqL_iff, beqL_ff, List.cons.injEq, and_true] at h) | skip) | ((conv => whnf) <;> (first | exact True.intro | apply br_rec | apply And.intro | apply EntP.k0 | apply EntP.k1 | apply EntP.k2 | apply EntP.k3 | apply EntP.k4 | apply EntP.k5 | apply EntP.k6 | apply DrawP.go | (apply AnyP.mk; kernel_rfl) | (refine AggP.go 2 rfl (by kernel_rfl) ?_) | (refine AggP.go 1 rfl (by kernel_rfl) ?_) | (refine AggP.go 3 rfl (by kernel_rfl) ?_) | (refine AggP.go 4 rfl (by kernel_rfl) ?_) | (refine AggP.go 5 rfl (by kernel_rfl) ?_) | (refine AggP.go 8 rfl (by kernel_rfl) ?_) | (refine AggP.go 11 rfl (by kernel_rfl) ?_) | apply CallP.own0 | apply CallP.own1 | apply CallP.own2 | apply CallP.own3 | apply CallP.nb | apply CutE.go0 | apply CutE.go7 | apply CutE.go6 | apply CutE.go5 | apply CutE.go4 | apply CutE.go3 | apply CutE.go2 | apply CutE.go1 | apply RoP.id | apply wrapS | (with_reducible exact lenNil) | apply Eq.refl)) | ((first | (with_reducible show rvEq _ _ _ _) | (with_reducible show svEq _ _ _ _) | (with_reducible show cellEq _ _ _ _) | (with_reducible show blkEq _ _ _)); conv => whnf))
  · show ts.length ≤ 1000000; omega
  apply LoopP.up (G := Nat × List Int) (MarkI ts tag p c) [1, 3, 4, 8, 54, 55] (fun (k, l) => [(55, .i k)]) (fun (k, l) => [(2, .slc 3 1 ts.length (slG encI l))]) 3 (fun s => c - s.1)
  apply And.intro
  · refine CutE.at (0, ts) ?_
    repeat' (first | (intro h; first | exact Bool.noConfusion h | (guard_hyp h : true = true; clear h) | (guard_hyp h : false = false; clear h) | (simp only [decide_eq_true_eq, decide_eq_false_iff_not, beq_iff_eq, beq_eq_false_iff_ne, bne_iff_ne, bne_eq_false_iff_eq, Bool.not_eq_true', Bool.not_eq_false', ne_eq, Classical.not_not, Bool.not_true, Bool.not_false, beqL_iff, beqL_ff, List.cons.injEq, and_true] at h) | skip) | ((conv => whnf) <;> (first | exact True.intro | apply br_rec | apply And.intro | apply EntP.k0 | apply EntP.k1 | apply EntP.k2 | apply EntP.k3 | apply EntP.k4 | apply EntP.k5 | apply EntP.k6 | apply DrawP.go | (apply AnyP.mk; kernel_rfl) | (refine AggP.go 2 rfl (by kernel_rfl) ?_) | (refine AggP.go 1 rfl (by kernel_rfl) ?_) | (refine AggP.go 3 rfl (by kernel_rfl) ?_) | (refine AggP.go 4 rfl (by kernel_rfl) ?_) | (refine AggP.go 5 rfl (by kernel_rfl) ?_) | (refine AggP.go 8 rfl (by kernel_rfl) ?_) | (refine AggP.go 11 rfl (by kernel_rfl) ?_) | apply CallP.own0 | apply CallP.own1 | apply CallP.own2 | apply CallP.own3 | apply CallP.nb | apply CutE.go0 | apply CutE.go7 | apply CutE.go6 | apply CutE.go5 | apply CutE.go4 | apply CutE.go3 | apply CutE.go2 | apply CutE.go1 | apply RoP.id | apply wrapS | (with_reducible exact lenNil) | apply Eq.refl)) | ((first | (with_reducible show rvEq _ _ _ _) | (with_reducible show svEq _ _ _ _) | (with_reducible show cellEq _ _ _ _) | (with_reducible show blkEq _ _ _)); conv => whnf))
    all_goals try simp only [Int.toNat_natCast, Int.toNat_zero, ge_iff_le, gt_iff_lt, Int.ofNat_le, Int.ofNat_lt, Int.ofNat_inj] at *
    all_goals first
      | omega
      | (dsimp only; omega)
      | assumption
      | exact Up.zero _
      | (show ((8 : Nat) : Int) * _ ≤ _; omega)
      | (show _ * (8 : Nat) ≤ _; omega)
      | (show _ * (16 : Nat) ≤ _; omega)
      | (show _ * (24 : Nat) ≤ _; omega)
      | exact MarkI.start (memR_tags hm)
      | trace_state
  · rintro ⟨k, l⟩ hI
    have hk := hI.hk
    have hl := hI.hl
    simp only at hk hl
    have w1 : k < c → IntKind.i64.wrap ((p : Int) + k) = ((p + k : Nat) : Int) := fun h => by rw [wrap_i64 ⟨by omega, by omega⟩]; omega
    have hgo : markF ws ts p c tag = if (markN tag ts p c).2 = 0 then ((ws, (markN tag ts p c).1), 0) else (([], []), (markN tag ts p c).2) := markF_go hm htag hr
    have hpc : p + c ≤ ts.length := by omega
    clear hr
    repeat' (first | (intro h; first | exact Bool.noConfusion h | (guard_hyp h : true = true; clear h) | (guard_hyp h : false = false; clear h) | (simp only [decide_eq_true_eq, decide_eq_false_iff_not, beq_iff_eq, beq_eq_false_iff_ne, bne_iff_ne, bne_eq_false_iff_eq, Bool.not_eq_true', Bool.not_eq_false', ne_eq, Classical.not_not, Bool.not_true, Bool.not_false, beqL_iff, beqL_ff, List.cons.injEq, and_true] at h) | skip) | ((conv => whnf) <;> (first | exact True.intro | apply br_rec | apply And.intro | (refine CutE.at (k + 1, l.set (p + k) tag) ?_) | apply EntP.k0 | apply EntP.k1 | apply EntP.k2 | apply EntP.k3 | apply EntP.k4 | apply EntP.k5 | apply EntP.k6 | apply DrawP.go | (apply AnyP.mk; kernel_rfl) | (refine AggP.go 2 rfl (by kernel_rfl) ?_) | (refine AggP.go 1 rfl (by kernel_rfl) ?_) | (refine AggP.go 3 rfl (by kernel_rfl) ?_) | (refine AggP.go 4 rfl (by kernel_rfl) ?_) | (refine AggP.go 5 rfl (by kernel_rfl) ?_) | (refine AggP.go 8 rfl (by kernel_rfl) ?_) | (refine AggP.go 11 rfl (by kernel_rfl) ?_) | apply CallP.own0 | apply CallP.own1 | apply CallP.own2 | apply CallP.own3 | apply CallP.nb | apply CutE.go0 | apply CutE.go7 | apply CutE.go6 | apply CutE.go5 | apply CutE.go4 | apply CutE.go3 | apply CutE.go2 | apply CutE.go1 | apply RoP.id | apply wrapS | (with_reducible exact lenNil) | apply Eq.refl)) | ((first | (with_reducible show rvEq _ _ _ _) | (with_reducible show svEq _ _ _ _) | (with_reducible show cellEq _ _ _ _) | (with_reducible show blkEq _ _ _)); conv => whnf))
    all_goals try simp only [w1 (by omega)] at *
    all_goals try simp only [Int.toNat_natCast] at *
    all_goals try (have ht : 0 ≤ l.getD (p + k) default ∧ l.getD (p + k) default ≤ 2 := hI.ht (p + k) (show p + k < l.length by omega))
    all_goals try simp only [Int.toNat_natCast, Int.toNat_zero, ge_iff_le, gt_iff_lt, Int.ofNat_le, Int.ofNat_lt, Int.ofNat_inj] at *
    all_goals first
      | omega
      | (dsimp only; omega)
      | assumption
      | exact Up.zero _
      | (show ((8 : Nat) : Int) * _ ≤ _; omega)
      | (show _ * (8 : Nat) ≤ _; omega)
      | (show _ * (16 : Nat) ≤ _; omega)
      | (show _ * (24 : Nat) ≤ _; omega)
      | (rw [hgo, hI.stop (e := 6) (by omega) (by rw [markE, if_pos (by assumption), if_pos (by assumption)]) (by decide) ] <;> rfl)
      | (rw [hgo, hI.stop (e := whyF (l.getD (p + k) default)) (by omega) (by rw [markE, if_neg (by assumption)]) (by assumption)]; rw [if_neg (by assumption)]; done)
      | (rw [hgo, hI.stop (e := whyF (l.getD (p + k) default)) (by omega) (by rw [markE, if_neg (by assumption)]) (by assumption)]; rw [if_neg (by assumption) ] <;> rfl)
      | exact slG_set1 (by omega) (by simpa [hl] using (by assumption)) (by assumption)
      | (apply hI.step (by omega) (by omega) htag; rw [markE, if_pos (by assumption), if_neg (by assumption)])
      | (apply hI.step (by omega) (by omega) htag; rw [markE, if_neg (by assumption)]; assumption)
      | (rw [hgo, hI.done (by omega)] <;> first | rfl | exact hl)
      | trace_state

theorem rmark_arg {tag t : Int} (ht : 0 ≤ t ∧ t ≤ 2) (htag : tag = 1 ∨ tag = 2) : (tag = 1 → t = 1 → markE tag t = 6) ∧ (tag = 2 → t = 0 → markE tag t = 4) ∧ (tag = 2 → t = 2 → markE tag t = 5) ∧ ((tag = 1 → ¬ t = 1) → (tag = 2 → ¬ t = 0) → (tag = 2 → ¬ t = 2) → markE tag t = 0) := by
  unfold markE whyF
  refine ⟨fun h1 h2 => ?_, fun h1 h2 => ?_, fun h1 h2 => ?_, fun h1 h2 h3 => ?_⟩
  · simp [h1, h2]
  · simp [h1, h2]
  · simp [h1, h2]
  · rcases htag with rfl | rfl
    · simp [h1 rfl]
    · have := h2 rfl; have := h3 rfl
      have : t = 1 := by omega
      simp [this]
set_option maxHeartbeats 8000000 in
set_option maxRecDepth 100000 in
theorem rmark_ok : Meets Try.prog 36 sRMark := by
  refine meets_plain M3_ok rfl [3] (fn := Try.f36) rfl rfl rfl (by decide) fun ⟨ws, ts, a, n, tag⟩ ⟨hm, htag⟩ => ?_
  repeat' (first | (intro h; first | exact Bool.noConfusion h | (guard_hyp h : true = true; clear h) | (guard_hyp h : false = false; clear h) | (simp only [decide_eq_true_eq, decide_eq_false_iff_not, beq_iff_eq, beq_eq_false_iff_ne, bne_iff_ne, bne_eq_false_iff_eq, Bool.not_eq_true', Bool.not_eq_false', ne_eq, Classical.not_not, Bool.not_true, Bool.not_false, beqL_iff, beqL_ff, List.cons.injEq, and_true] at h) | skip) | ((conv => whnf) <;> (first | exact True.intro | apply br_rec | apply And.intro | apply EntP.k0 | apply EntP.k1 | apply EntP.k2 | apply EntP.k3 | apply EntP.k4 | apply EntP.k5 | apply EntP.k6 | apply DrawP.go | (apply AnyP.mk; kernel_rfl) | (refine AggP.go 2 rfl (by kernel_rfl) ?_) | (refine AggP.go 1 rfl (by kernel_rfl) ?_) | (refine AggP.go 3 rfl (by kernel_rfl) ?_) | (refine AggP.go 4 rfl (by kernel_rfl) ?_) | (refine AggP.go 5 rfl (by kernel_rfl) ?_) | (refine AggP.go 8 rfl (by kernel_rfl) ?_) | (refine AggP.go 11 rfl (by kernel_rfl) ?_) | apply CallP.own0 | apply CallP.own1 | apply CallP.own2 | apply CallP.own3 | apply CallP.nb | apply CutE.go0 | apply CutE.go7 | apply CutE.go6 | apply CutE.go5 | apply CutE.go4 | apply CutE.go3 | apply CutE.go2 | apply CutE.go1 | apply RoP.id | apply wrapS | (with_reducible exact lenNil) | apply Eq.refl)) | ((first | (with_reducible show rvEq _ _ _ _) | (with_reducible show svEq _ _ _ _) | (with_reducible show cellEq _ _ _ _) | (with_reducible show blkEq _ _ _)); conv => whnf))
  apply CutP.up (G := Unit) (fun _ => ¬ (n < 1 ∨ a < 0 ∨ ws.length ≤ a ∨ ws.length - a < n)) [1, 2, 3, 4, 8] (fun _ => []) (fun _ => []) 2
  apply And.intro
  · repeat' (first | (intro h; first | exact Bool.noConfusion h | (guard_hyp h : true = true; clear h) | (guard_hyp h : false = false; clear h) | (simp only [decide_eq_true_eq, decide_eq_false_iff_not, beq_iff_eq, beq_eq_false_iff_ne, bne_iff_ne, bne_eq_false_iff_eq, Bool.not_eq_true', Bool.not_eq_false', ne_eq, Classical.not_not, Bool.not_true, Bool.not_false, beqL_iff, beqL_ff, List.cons.injEq, and_true] at h) | skip) | ((conv => whnf) <;> (first | exact True.intro | apply br_rec | apply And.intro | apply EntP.k0 | apply EntP.k1 | apply EntP.k2 | apply EntP.k3 | apply EntP.k4 | apply EntP.k5 | apply EntP.k6 | apply DrawP.go | (apply AnyP.mk; kernel_rfl) | (refine AggP.go 2 rfl (by kernel_rfl) ?_) | (refine AggP.go 1 rfl (by kernel_rfl) ?_) | (refine AggP.go 3 rfl (by kernel_rfl) ?_) | (refine AggP.go 4 rfl (by kernel_rfl) ?_) | (refine AggP.go 5 rfl (by kernel_rfl) ?_) | (refine AggP.go 8 rfl (by kernel_rfl) ?_) | (refine AggP.go 11 rfl (by kernel_rfl) ?_) | apply CallP.own0 | apply CallP.own1 | apply CallP.own2 | apply CallP.own3 | apply CallP.nb | apply CutE.go0 | apply CutE.go7 | apply CutE.go6 | apply CutE.go5 | apply CutE.go4 | apply CutE.go3 | apply CutE.go2 | apply CutE.go1 | apply RoP.id | apply wrapS | (with_reducible exact lenNil) | apply Eq.refl)) | ((first | (with_reducible show rvEq _ _ _ _) | (with_reducible show svEq _ _ _ _) | (with_reducible show cellEq _ _ _ _) | (with_reducible show blkEq _ _ _)); conv => whnf))
    all_goals have w1 : memR ws ts = true → 0 ≤ a → a < ws.length → IntKind.i64.wrap (ws.length - a) = ws.length - a := fun h h1 h2 => wrap_i64 (by have := memR_iff.1 h; omega)
    all_goals try simp only [w1 (by assumption) (by omega) (by omega)] at *
    all_goals try simp only [Int.toNat_natCast, Int.toNat_zero, ge_iff_le, gt_iff_lt, Int.ofNat_le, Int.ofNat_lt, Int.ofNat_inj] at *
    all_goals first
      | omega
      | (dsimp only; omega)
      | assumption
      | exact Up.zero _
      | (show ((8 : Nat) : Int) * _ ≤ _; omega)
      | (show _ * (8 : Nat) ≤ _; omega)
      | (show _ * (16 : Nat) ≤ _; omega)
      | (show _ * (24 : Nat) ≤ _; omega)
      | (rw [markF_range (by assumption) (by omega) (by omega)] <;> rfl)
      | trace_state
  rintro ⟨⟩ hr
  obtain ⟨p, rfl⟩ : ∃ p : Nat, a = p := ⟨a.toNat, by omega⟩
  obtain ⟨c, rfl⟩ : ∃ c : Nat, n = c := ⟨n.toNat, by omega⟩
  have hn := memR_iff.1 hm
  repeat' (first | (intro h; first | exact Bool.noConfusion h | (guard_hyp h : true = true; clear h) | (guard_hyp h : false = false; clear h) | (simp only [decide_eq_true_eq, decide_eq_false_iff_not, beq_iff_eq, beq_eq_false_iff_ne, bne_iff_ne, bne_eq_false_iff_eq, Bool.not_eq_true', Bool.not_eq_false', ne_eq, Classical.not_not, Bool.not_true, Bool.not_false, beqL_iff, beqL_ff, List.cons.injEq, and_true] at h) | skip) | ((conv => whnf) <;> (first | exact True.intro | apply br_rec | apply And.intro | apply EntP.k0 | apply EntP.k1 | apply EntP.k2 | apply EntP.k3 | apply EntP.k4 | apply EntP.k5 | apply EntP.k6 | apply DrawP.go | (apply AnyP.mk; kernel_rfl) | (refine AggP.go 2 rfl (by kernel_rfl) ?_) | (refine AggP.go 1 rfl (by kernel_rfl) ?_) | (refine AggP.go 3 rfl (by kernel_rfl) ?_) | (refine AggP.go 4 rfl (by kernel_rfl) ?_) | (refine AggP.go 5 rfl (by kernel_rfl) ?_) | (refine AggP.go 8 rfl (by kernel_rfl) ?_) | (refine AggP.go 11 rfl (by kernel_rfl) ?_) | apply CallP.own0 | apply CallP.own1 | apply CallP.own2 | apply CallP.own3 | apply CallP.nb | apply CutE.go0 | apply CutE.go7 | apply CutE.go6 | apply CutE.go5 | apply CutE.go4 | apply CutE.go3 | apply CutE.go2 | apply CutE.go1 | apply RoP.id | apply wrapS | (with_reducible exact lenNil) | apply Eq.refl)) | ((first | (with_reducible show rvEq _ _ _ _) | (with_reducible show svEq _ _ _ _) | (with_reducible show cellEq _ _ _ _) | (with_reducible show blkEq _ _ _)); conv => whnf))
  apply LoopP.up (G := Nat × List Int) (MarkI ts tag p c) [1, 2, 3, 4, 8, 10, 11] (fun (k, l) => [(11, .i (p + k : Nat)), (10, .c (intsS l))]) (fun (k, l) => []) 2 (fun s => c - s.1)
  apply And.intro
  · refine CutE.at (0, ts) ?_
    repeat' (first | (intro h; first | exact Bool.noConfusion h | (guard_hyp h : true = true; clear h) | (guard_hyp h : false = false; clear h) | (simp only [decide_eq_true_eq, decide_eq_false_iff_not, beq_iff_eq, beq_eq_false_iff_ne, bne_iff_ne, bne_eq_false_iff_eq, Bool.not_eq_true', Bool.not_eq_false', ne_eq, Classical.not_not, Bool.not_true, Bool.not_false, beqL_iff, beqL_ff, List.cons.injEq, and_true] at h) | skip) | ((conv => whnf) <;> (first | exact True.intro | apply br_rec | apply And.intro | apply EntP.k0 | apply EntP.k1 | apply EntP.k2 | apply EntP.k3 | apply EntP.k4 | apply EntP.k5 | apply EntP.k6 | apply DrawP.go | (apply AnyP.mk; kernel_rfl) | (refine AggP.go 2 rfl (by kernel_rfl) ?_) | (refine AggP.go 1 rfl (by kernel_rfl) ?_) | (refine AggP.go 3 rfl (by kernel_rfl) ?_) | (refine AggP.go 4 rfl (by kernel_rfl) ?_) | (refine AggP.go 5 rfl (by kernel_rfl) ?_) | (refine AggP.go 8 rfl (by kernel_rfl) ?_) | (refine AggP.go 11 rfl (by kernel_rfl) ?_) | apply CallP.own0 | apply CallP.own1 | apply CallP.own2 | apply CallP.own3 | apply CallP.nb | apply CutE.go0 | apply CutE.go7 | apply CutE.go6 | apply CutE.go5 | apply CutE.go4 | apply CutE.go3 | apply CutE.go2 | apply CutE.go1 | apply RoP.id | apply wrapS | (with_reducible exact lenNil) | apply Eq.refl)) | ((first | (with_reducible show rvEq _ _ _ _) | (with_reducible show svEq _ _ _ _) | (with_reducible show cellEq _ _ _ _) | (with_reducible show blkEq _ _ _)); conv => whnf))
    all_goals try simp only [Int.toNat_natCast, Int.toNat_zero, ge_iff_le, gt_iff_lt, Int.ofNat_le, Int.ofNat_lt, Int.ofNat_inj] at *
    all_goals first
      | omega
      | (dsimp only; omega)
      | assumption
      | exact Up.zero _
      | (show ((8 : Nat) : Int) * _ ≤ _; omega)
      | (show _ * (8 : Nat) ≤ _; omega)
      | (show _ * (16 : Nat) ≤ _; omega)
      | (show _ * (24 : Nat) ≤ _; omega)
      | exact MarkI.start (memR_tags hm)
      | trace_state
  · rintro ⟨k, l⟩ hI
    have hk := hI.hk
    have hl := hI.hl
    simp only at hk hl
    have w1 : IntKind.i64.wrap ((p : Int) + c) = ((p + c : Nat) : Int) := by rw [wrap_i64 ⟨by omega, by omega⟩]; omega
    have w2 : k < c → IntKind.i64.wrap (((p + k : Nat) : Int) + 1) = ((p + (k + 1) : Nat) : Int) := fun h => by rw [wrap_i64 ⟨by omega, by omega⟩]; omega
    have hgo : markF ws ts p c tag = if (markN tag ts p c).2 = 0 then ((ws, (markN tag ts p c).1), 0) else (([], []), (markN tag ts p c).2) := markF_go hm htag hr
    have hfar : l.getD (p + k) default = ts.getD (p + k) default := hI.far (p + k) (Nat.le_refl _)
    have hpc : p + c ≤ ts.length := by omega
    clear hr
    repeat' (first | (intro h; first | exact Bool.noConfusion h | (guard_hyp h : true = true; clear h) | (guard_hyp h : false = false; clear h) | (simp only [decide_eq_true_eq, decide_eq_false_iff_not, beq_iff_eq, beq_eq_false_iff_ne, bne_iff_ne, bne_eq_false_iff_eq, Bool.not_eq_true', Bool.not_eq_false', ne_eq, Classical.not_not, Bool.not_true, Bool.not_false, beqL_iff, beqL_ff, List.cons.injEq, and_true] at h) | skip) | ((conv => whnf) <;> (first | exact True.intro | apply br_rec | apply And.intro | (refine CutE.at (k + 1, l.set (p + k) tag) ?_) | apply EntP.k0 | apply EntP.k1 | apply EntP.k2 | apply EntP.k3 | apply EntP.k4 | apply EntP.k5 | apply EntP.k6 | apply DrawP.go | (apply AnyP.mk; kernel_rfl) | (refine AggP.go 2 rfl (by kernel_rfl) ?_) | (refine AggP.go 1 rfl (by kernel_rfl) ?_) | (refine AggP.go 3 rfl (by kernel_rfl) ?_) | (refine AggP.go 4 rfl (by kernel_rfl) ?_) | (refine AggP.go 5 rfl (by kernel_rfl) ?_) | (refine AggP.go 8 rfl (by kernel_rfl) ?_) | (refine AggP.go 11 rfl (by kernel_rfl) ?_) | apply CallP.own0 | apply CallP.own1 | apply CallP.own2 | apply CallP.own3 | apply CallP.nb | apply CutE.go0 | apply CutE.go7 | apply CutE.go6 | apply CutE.go5 | apply CutE.go4 | apply CutE.go3 | apply CutE.go2 | apply CutE.go1 | apply RoP.id | apply wrapS | (with_reducible exact lenNil) | apply Eq.refl)) | ((first | (with_reducible show rvEq _ _ _ _) | (with_reducible show svEq _ _ _ _) | (with_reducible show cellEq _ _ _ _) | (with_reducible show blkEq _ _ _)); conv => whnf))
    all_goals try simp only [w1] at *
    all_goals try simp only [w2 (by omega)] at *
    all_goals try simp only [Int.toNat_natCast, ← hfar] at *
    all_goals try (have ht : 0 ≤ l.getD (p + k) default ∧ l.getD (p + k) default ≤ 2 := hI.ht (p + k) (show p + k < l.length by omega))
    all_goals try have hm1 := rmark_arg ht htag
    all_goals try simp only [Int.toNat_natCast, Int.toNat_zero, ge_iff_le, gt_iff_lt, Int.ofNat_le, Int.ofNat_lt, Int.ofNat_inj] at *
    all_goals first
      | omega
      | (dsimp only; omega)
      | assumption
      | exact Up.zero _
      | (show ((8 : Nat) : Int) * _ ≤ _; omega)
      | (show _ * (8 : Nat) ≤ _; omega)
      | (show _ * (16 : Nat) ≤ _; omega)
      | (show _ * (24 : Nat) ≤ _; omega)
      | (show p + k < _; omega)
      | (show l.length ≤ 1000000; omega)
      | (rw [hgo, hI.stop (e := 6) (by omega) (hm1.1 (by assumption) (by assumption)) (by decide)] <;> rfl)
      | (rw [hgo, hI.stop (e := 4) (by omega) (hm1.2.1 (by assumption) (by assumption)) (by decide)] <;> rfl)
      | (rw [hgo, hI.stop (e := 5) (by omega) (hm1.2.2.1 (by assumption) (by assumption)) (by decide)] <;> rfl)
      | (apply hI.step (by omega) (by omega) htag; apply hm1.2.2.2 <;> (intro _; first | assumption | contradiction))
      | (rw [hgo, hI.done (by omega)] <;> first | rfl | exact hl)
      | (simp [withF]; done)
      | trace_state
end Go.Eng
