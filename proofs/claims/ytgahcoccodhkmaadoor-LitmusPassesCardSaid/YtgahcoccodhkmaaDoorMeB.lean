/- A part of the walks, and of the machine that proves them (MeB). -/
import Derived.Test.YtgahcoccodhkmaaDoorMeA
set_option linter.unusedVariables false
set_option linter.unusedSimpArgs false
namespace Go.Eng
open Go Go.Proofs
def Tags (ts : List Int) : Prop := ∀ i, i < ts.length → 0 ≤ ts.getD i default ∧ ts.getD i default ≤ 2
theorem memR_tags {ws ts : List Int} (h : memR ws ts = true) : Tags ts := fun i hi => by
  have := okT_true.1 ((memR_iff.1 h).2.2.2 i hi)
  omega
theorem getD_set_eq {l : List Int} {i : Nat} {x : Int} (h : i < l.length) : (l.set i x).getD i default = x := by simp [List.getD_eq_getElem?_getD, h]
theorem getD_set_ne {l : List Int} {i j : Nat} {x : Int} (h : i ≠ j) : (l.set i x).getD j default = l.getD j default := by
  simp only [List.getD_eq_getElem?_getD]
  rw [List.getElem?_set_ne h]
theorem Tags.set {ts : List Int} (h : Tags ts) {i : Nat} {x : Int} (hx : 0 ≤ x ∧ x ≤ 2) : Tags (ts.set i x) := fun j hj => by
  have hj : j < ts.length := by simpa using hj
  by_cases e : i = j
  · subst e; rw [getD_set_eq hj]; exact hx
  · rw [getD_set_ne e]; exact h j hj
theorem markN_next {tag : Int} {ts : List Int} {p n : Nat} (hn : 0 < n) (h : markE tag (ts.getD p default) = 0) : markN tag ts p n = markN tag (ts.set p tag) (p + 1) (n - 1) := by
  obtain ⟨m, rfl⟩ : ∃ m, n = m + 1 := ⟨n - 1, by omega⟩
  rw [markN, if_pos h]; rfl
theorem markN_stop {tag : Int} {ts : List Int} {p n : Nat} (hn : 0 < n) (h : markE tag (ts.getD p default) ≠ 0) : markN tag ts p n = ([], markE tag (ts.getD p default)) := by
  obtain ⟨m, rfl⟩ : ∃ m, n = m + 1 := ⟨n - 1, by omega⟩
  rw [markN, if_neg h]
theorem markF_arg {ws ts : List Int} {a n tag : Int} (h : ¬ (memR ws ts = true ∧ (tag = 1 ∨ tag = 2))) : markF ws ts a n tag = (([], []), 1) := by rw [markF, if_neg h]
theorem markF_range {ws ts : List Int} {a n tag : Int} (h : memR ws ts = true) (h1 : tag = 1 ∨ tag = 2) (h2 : n < 1 ∨ a < 0 ∨ ws.length ≤ a ∨ ws.length - a < n) : markF ws ts a n tag = (([], []), 3) := by rw [markF, if_pos ⟨h, h1⟩, if_pos h2]
theorem markF_go {ws ts : List Int} {a n tag : Int} (h : memR ws ts = true) (h1 : tag = 1 ∨ tag = 2) (h2 : ¬ (n < 1 ∨ a < 0 ∨ ws.length ≤ a ∨ ws.length - a < n)) : markF ws ts a n tag =
    if (markN tag ts a.toNat n.toNat).2 = 0 then ((ws, (markN tag ts a.toNat n.toNat).1), 0) else (([], []), (markN tag ts a.toNat n.toNat).2) := by rw [markF, if_pos ⟨h, h1⟩, if_neg h2]
structure MarkI (ts : List Int) (tag : Int) (p n : Nat) (s : Nat × List Int) : Prop where
  hk : s.1 ≤ n
  hl : s.2.length = ts.length
  ht : Tags s.2
  run : markN tag ts p n = markN tag s.2 (p + s.1) (n - s.1)
  far : ∀ i, p + s.1 ≤ i → s.2.getD i default = ts.getD i default
theorem MarkI.step {ts : List Int} {tag : Int} {p n k : Nat} {l : List Int} (h : MarkI ts tag p n (k, l)) (hk : k < n) (hp : p + n ≤ ts.length) (htag : tag = 1 ∨ tag = 2) (he : markE tag (l.getD (p + k) default) = 0) : MarkI ts tag p n (k + 1, l.set (p + k) tag) where
  hk := hk
  hl := by simpa using h.hl
  ht := h.ht.set (by omega)
  run := by
    have := h.run
    rw [this]
    show markN tag l (p + k) (n - k) = _
    rw [markN_next (by omega) he]
    show markN tag (l.set (p + k) tag) (p + k + 1) (n - k - 1) = markN tag (l.set (p + k) tag) (p + (k + 1)) (n - (k + 1))
    rw [show p + k + 1 = p + (k + 1) by omega, show n - k - 1 = n - (k + 1) by omega]
  far := fun i hi => by
    have hi : p + (k + 1) ≤ i := hi
    show (l.set (p + k) tag).getD i default = _
    rw [getD_set_ne (by omega)]
    exact h.far i (show p + k ≤ i by omega)
theorem MarkI.stop {ts : List Int} {tag : Int} {p n k : Nat} {l : List Int} (h : MarkI ts tag p n (k, l)) (hk : k < n) {e : Int} (he : markE tag (l.getD (p + k) default) = e) (h0 : e ≠ 0) : markN tag ts p n = ([], e) := by
  rw [h.run]
  show markN tag l (p + k) (n - k) = _
  rw [markN_stop (by omega) (by rw [he]; exact h0), he]
theorem MarkI.done {ts : List Int} {tag : Int} {p n k : Nat} {l : List Int} (h : MarkI ts tag p n (k, l)) (hk : ¬ k < n) : markN tag ts p n = (l, 0) := by
  have h1 : k = n := by have : k ≤ n := h.hk; omega
  rw [h.run]
  show markN tag l (p + k) (n - k) = _
  rw [h1, Nat.sub_self]; rfl
theorem MarkI.start {ts : List Int} {tag : Int} {p n : Nat} (h : Tags ts) : MarkI ts tag p n (0, ts) := ⟨Nat.zero_le _, rfl, h, rfl, fun _ _ => rfl⟩
set_option maxHeartbeats 8000000 in
set_option maxRecDepth 100000 in
theorem mark_ok : Meets Tryd.prog 15 sMark := by
  refine meets_plain M3_ok rfl [5] (fn := Tryd.f15) rfl rfl rfl (by decide) fun ⟨ws, ts, a, n, tag⟩ _ => ?_
  repeat' (first | exact @id (emp _ = true) | (intro h; first | exact Bool.noConfusion h | (simp only [Qn] at h) | skip) | ((conv => whnf) <;> (first | exact trivial | apply Qa | apply And.intro | apply Qb | apply Qc | apply Qd | apply Qe | apply Qf | apply Qg | apply Qh | apply Qi | exact QA | exact QP | refine QG ?_ | apply Qj | apply Qk | apply Ql | apply Qm | apply Qo | apply Qp | apply Qw | apply Qv | apply Qu | apply Qt | apply Qs | apply Qr | apply Qq | apply Qx | apply wrapS | apply Qy | (with_reducible exact lenNil) | apply Eq.refl)) | ((with_reducible first | apply Y1 | apply Y2 | apply Y3 | show blkEq _ _ _); conv => whnf))
  apply CutP.up (G := Unit) (fun _ => memR ws ts = true ∧ (tag = 1 ∨ tag = 2) ∧ ¬ (n < 1 ∨ a < 0 ∨ ws.length ≤ a ∨ ws.length - a < n)) [1, 2, 3, 4, 8] (fun _ => []) (fun _ => []) 2
  apply And.intro
  · repeat' (first | exact @id (emp _ = true) | (intro h; first | exact Bool.noConfusion h | (simp only [Qn] at h) | skip) | ((conv => whnf) <;> (first | exact trivial | apply Qa | apply And.intro | apply Qb | apply Qc | apply Qd | apply Qe | apply Qf | apply Qg | apply Qh | apply Qi | exact QA | exact QP | refine QG ?_ | apply Qj | apply Qk | apply Ql | apply Qm | apply Qo | apply Qp | apply Qw | apply Qv | apply Qu | apply Qt | apply Qs | apply Qr | apply Qq | apply Qx | apply wrapS | apply Qy | (with_reducible exact lenNil) | apply Eq.refl)) | ((with_reducible first | apply Y1 | apply Y2 | apply Y3 | show blkEq _ _ _); conv => whnf))
    all_goals have w1 : memR ws ts = true → 0 ≤ a → a < ws.length → IntKind.i64.wrap (ws.length - a) = ws.length - a := fun h h1 h2 => wrap_i64 (by have := memR_iff.1 h; omega)
    all_goals try simp only [w1 (by assumption) (by omega) (by omega)] at *
    all_goals try simp only [Int.toNat_natCast, Int.toNat_zero, ge_iff_le, gt_iff_lt, Int.ofNat_le, Int.ofNat_lt, Int.ofNat_inj] at *
    all_goals first
      | omega
      | (dsimp only; omega)
      | assumption
      | exact Up.zero _
      | (show ((8 : Nat) : Int) * _ ≤ _; omega)
      | (show _ * (8 : Nat) ≤ _; omega)
      | (show _ * (16 : Nat) ≤ _; omega)
      | (show _ * (24 : Nat) ≤ _; omega)
      | (rw [markF_arg (fun h => absurd h.1 (by simp only [*]; decide)) ] <;> rfl)
      | (rw [markF_arg (fun h => by omega) ] <;> rfl)
      | (rw [markF_range (by assumption) (by omega) (by omega) ] <;> rfl)
      | trace_state
  rintro ⟨⟩ ⟨hm, htag, hr⟩
  obtain ⟨p, rfl⟩ : ∃ p : Nat, a = p := ⟨a.toNat, by omega⟩
  obtain ⟨c, rfl⟩ : ∃ c : Nat, n = c := ⟨n.toNat, by omega⟩
  have hn := memR_iff.1 hm
  repeat' (first | exact @id (emp _ = true) | (intro h; first | exact Bool.noConfusion h | (simp only [Qn] at h) | skip) | ((conv => whnf) <;> (first | exact trivial | apply Qa | apply And.intro | apply Qb | apply Qc | apply Qd | apply Qe | apply Qf | apply Qg | apply Qh | apply Qi | exact QA | exact QP | refine QG ?_ | apply Qj | apply Qk | apply Ql | apply Qm | apply Qo | apply Qp | apply Qw | apply Qv | apply Qu | apply Qt | apply Qs | apply Qr | apply Qq | apply Qx | apply wrapS | apply Qy | (with_reducible exact lenNil) | apply Eq.refl)) | ((with_reducible first | apply Y1 | apply Y2 | apply Y3 | show blkEq _ _ _); conv => whnf))
  · show ts.length ≤ 1000000; omega
  apply LoopP.up (G := Nat × List Int) (MarkI ts tag p c) [1, 3, 4, 8, 54, 55] (fun (k, l) => [(55, .i k)]) (fun (k, l) => [(2, .slc 3 1 ts.length (slG encI l))]) 3 (fun s => c - s.1)
  apply And.intro
  · refine CutE.at (0, ts) ?_
    repeat' (first | exact @id (emp _ = true) | (intro h; first | exact Bool.noConfusion h | (simp only [Qn] at h) | skip) | ((conv => whnf) <;> (first | exact trivial | apply Qa | apply And.intro | apply Qb | apply Qc | apply Qd | apply Qe | apply Qf | apply Qg | apply Qh | apply Qi | exact QA | exact QP | refine QG ?_ | apply Qj | apply Qk | apply Ql | apply Qm | apply Qo | apply Qp | apply Qw | apply Qv | apply Qu | apply Qt | apply Qs | apply Qr | apply Qq | apply Qx | apply wrapS | apply Qy | (with_reducible exact lenNil) | apply Eq.refl)) | ((with_reducible first | apply Y1 | apply Y2 | apply Y3 | show blkEq _ _ _); conv => whnf))
    all_goals try simp only [Int.toNat_natCast, Int.toNat_zero, ge_iff_le, gt_iff_lt, Int.ofNat_le, Int.ofNat_lt, Int.ofNat_inj] at *
    all_goals first
      | omega
      | (dsimp only; omega)
      | assumption
      | exact Up.zero _
      | (show ((8 : Nat) : Int) * _ ≤ _; omega)
      | (show _ * (8 : Nat) ≤ _; omega)
      | (show _ * (16 : Nat) ≤ _; omega)
      | (show _ * (24 : Nat) ≤ _; omega)
      | exact MarkI.start (memR_tags hm)
      | trace_state
  · rintro ⟨k, l⟩ hI
    have hk := hI.hk
    have hl := hI.hl
    simp only at hk hl
    have w1 : k < c → IntKind.i64.wrap ((p : Int) + k) = ((p + k : Nat) : Int) := fun h => by rw [wrap_i64 ⟨by omega, by omega⟩]; omega
    have hgo : markF ws ts p c tag = if (markN tag ts p c).2 = 0 then ((ws, (markN tag ts p c).1), 0) else (([], []), (markN tag ts p c).2) := markF_go hm htag hr
    have hpc : p + c ≤ ts.length := by omega
    clear hr
    repeat' (first | exact @id (emp _ = true) | (intro h; first | exact Bool.noConfusion h | (simp only [Qn] at h) | skip) | ((conv => whnf) <;> (first | exact trivial | apply Qa | apply And.intro | (refine CutE.at (k + 1, l.set (p + k) tag) ?_) | apply Qb | apply Qc | apply Qd | apply Qe | apply Qf | apply Qg | apply Qh | apply Qi | exact QA | exact QP | refine QG ?_ | apply Qj | apply Qk | apply Ql | apply Qm | apply Qo | apply Qp | apply Qw | apply Qv | apply Qu | apply Qt | apply Qs | apply Qr | apply Qq | apply Qx | apply wrapS | apply Qy | (with_reducible exact lenNil) | apply Eq.refl)) | ((with_reducible first | apply Y1 | apply Y2 | apply Y3 | show blkEq _ _ _); conv => whnf))
    all_goals try simp only [w1 (by omega)] at *
    all_goals try simp only [Int.toNat_natCast] at *
    all_goals try (have ht : 0 ≤ l.getD (p + k) default ∧ l.getD (p + k) default ≤ 2 := hI.ht (p + k) (show p + k < l.length by omega))
    all_goals try simp only [Int.toNat_natCast, Int.toNat_zero, ge_iff_le, gt_iff_lt, Int.ofNat_le, Int.ofNat_lt, Int.ofNat_inj] at *
    all_goals first
      | omega
      | (dsimp only; omega)
      | assumption
      | exact Up.zero _
      | (show ((8 : Nat) : Int) * _ ≤ _; omega)
      | (show _ * (8 : Nat) ≤ _; omega)
      | (show _ * (16 : Nat) ≤ _; omega)
      | (show _ * (24 : Nat) ≤ _; omega)
      | (rw [hgo, hI.stop (e := 6) (by omega) (by rw [markE, if_pos (by assumption), if_pos (by assumption)]) (by decide) ] <;> rfl)
      | (rw [hgo, hI.stop (e := whyF (l.getD (p + k) default)) (by omega) (by rw [markE, if_neg (by assumption)]) (by assumption)]; rw [if_neg (by assumption)]; done)
      | (rw [hgo, hI.stop (e := whyF (l.getD (p + k) default)) (by omega) (by rw [markE, if_neg (by assumption)]) (by assumption)]; rw [if_neg (by assumption) ] <;> rfl)
      | exact slG_set1 (by omega) (by simpa [hl] using (by assumption)) (by assumption)
      | (apply hI.step (by omega) (by omega) htag; rw [markE, if_pos (by assumption), if_neg (by assumption)])
      | (apply hI.step (by omega) (by omega) htag; rw [markE, if_neg (by assumption)]; assumption)
      | (rw [hgo, hI.done (by omega)] <;> first | rfl | exact hl)
      | trace_state
theorem rmark_arg {tag t : Int} (ht : 0 ≤ t ∧ t ≤ 2) (htag : tag = 1 ∨ tag = 2) : (tag = 1 → t = 1 → markE tag t = 6) ∧ (tag = 2 → t = 0 → markE tag t = 4) ∧ (tag = 2 → t = 2 → markE tag t = 5) ∧ ((tag = 1 → ¬ t = 1) → (tag = 2 → ¬ t = 0) → (tag = 2 → ¬ t = 2) → markE tag t = 0) := by
  unfold markE whyF
  refine ⟨fun h1 h2 => ?_, fun h1 h2 => ?_, fun h1 h2 => ?_, fun h1 h2 h3 => ?_⟩
  · simp [h1, h2]
  · simp [h1, h2]
  · simp [h1, h2]
  · rcases htag with rfl | rfl
    · simp [h1 rfl]
    · have := h2 rfl; have := h3 rfl
      have : t = 1 := by omega
      simp [this]
end Go.Eng
namespace Go.Eng
open Go Go.Proofs
theorem count_take {l : List Int} {k : Nat} (hk : k < l.length) (t : Int) : (l.take (k + 1)).count t = (l.take k).count t + if l.getD k default = t then 1 else 0 := by
  rw [take_getD (d := default) hk, List.count_append, List.count_singleton]
  simp only [beq_iff_eq]
theorem count_le {l : List Int} {k : Nat} (t : Int) : (l.take k).count t ≤ k := Nat.le_trans List.count_le_length (List.length_take_le _ _)
theorem rep_take {n : Nat} (h : n ≤ 160) (k : Nat) (hk : k < 160) : (List.replicate (k + 1) (0 : Int)) = List.replicate k 0 ++ [0] := List.replicate_succ'
end Go.Eng
namespace Go.Eng
open Go Go.Proofs
theorem memR_set {ws ts : List Int} {a v : Int} (h : useF ws ts a = 0) : memR (ws.set a.toNat v) ts = true := by
  obtain ⟨h1, h2, h3, h4⟩ := useF_ok.1 h
  obtain ⟨g1, g2, g3, g4⟩ := memR_iff.1 h1
  refine memR_iff.2 ⟨by simpa using g1, by simpa using g2, by simpa using g3, fun i hi => ?_⟩
  by_cases e : a.toNat = i
  · subst e; rw [h4]; simp [okT]
  · rw [getD_set_ne e]; exact g4 i hi
theorem useF_set {ws ts : List Int} {a v k : Int} (h : useF ws ts a = 0) : useF (ws.set a.toNat v) ts k = useF ws ts k := by
  have h1 := (useF_ok.1 h).1
  unfold useF
  rw [if_pos (memR_set h), if_pos h1]
  simp
theorem holds1 {ws ts : List Int} {a v : Int} (h : useF ws ts a = 0) : loadF (ws.set a.toNat v) ts a = (v, 0) := by
  obtain ⟨h1, h2, h3, h4⟩ := useF_ok.1 h
  unfold loadF
  rw [useF_set h, if_pos h, getD_set_eq (by omega)]
theorem holds2 {ws ts : List Int} {a v k : Int} (h : useF ws ts a = 0) (hk : k ≠ a) : loadF (ws.set a.toNat v) ts k = loadF ws ts k := by
  unfold loadF
  rw [useF_set h]
  split
  · rename_i h5
    obtain ⟨h1, h2, h3, h4⟩ := useF_ok.1 h
    obtain ⟨k1, k2, k3, k4⟩ := useF_ok.1 h5
    rw [getD_set_ne (by omega)]
  · rfl
theorem storeF_go {ws ts : List Int} {a v : Int} (h : useF ws ts a = 0) : storeF ws ts a v = ((ws.set a.toNat v, ts), 0) := by rw [storeF, if_pos h]
theorem storeF_no {ws ts : List Int} {a v : Int} (h : useF ws ts a ≠ 0) : storeF ws ts a v = (([], []), useF ws ts a) := by rw [storeF, if_neg h]
def setR (tag : Int) : List Int → Nat → Nat → List Int
  | ts, _, 0 => ts
  | ts, p, n + 1 => setR tag (ts.set p tag) (p + 1) n
theorem setR_len {tag : Int} : ∀ (n : Nat) (ts : List Int) (p : Nat), (setR tag ts p n).length = ts.length
  | 0, _, _ => rfl
  | n + 1, ts, p => by rw [setR, setR_len n]; simp
theorem setR_at {tag : Int} : ∀ (n : Nat) (ts : List Int) (p i : Nat), p + n ≤ ts.length → (setR tag ts p n).getD i default = if p ≤ i ∧ i < p + n then tag else ts.getD i default
  | 0, ts, p, i, h => by rw [if_neg (by omega)]; rfl
  | n + 1, ts, p, i, h => by
    rw [setR, setR_at n _ _ _ (by simp; omega)]
    by_cases e : p = i
    · subst e
      rw [if_neg (by omega), if_pos (by omega), getD_set_eq (by omega)]
    · rw [getD_set_ne e]
      by_cases e2 : p + 1 ≤ i ∧ i < p + 1 + n
      · rw [if_pos e2, if_pos (by omega)]
      · rw [if_neg e2, if_neg (by omega)]
theorem markN_go {tag : Int} : ∀ (n : Nat) (ts : List Int) (p : Nat), p + n ≤ ts.length → (∀ i, i < n → markE tag (ts.getD (p + i) default) = 0) → markN tag ts p n = (setR tag ts p n, 0)
  | 0, _, _, _, _ => rfl
  | n + 1, ts, p, h, he => by
    rw [markN, if_pos (by have := he 0 (by omega); simpa using this), setR]
    refine markN_go n _ _ (by simp; omega) fun i hi => ?_
    rw [getD_set_ne (by omega), show p + 1 + i = p + (i + 1) by omega]
    exact he (i + 1) (by omega)
theorem markN_inv {tag : Int} : ∀ (n : Nat) (ts : List Int) (p : Nat), p + n ≤ ts.length → (markN tag ts p n).2 = 0 → ∀ i, i < n → markE tag (ts.getD (p + i) default) = 0
  | 0, _, _, _, _ => fun i hi => by omega
  | n + 1, ts, p, h, he => fun i hi => by
    rw [markN] at he
    split at he
    · rename_i h0
      cases i with
      | zero => exact h0
      | succ i =>
        have := markN_inv n _ _ (by simp; omega) he i (by omega)
        rw [getD_set_ne (by omega), show p + 1 + i = p + (i + 1) by omega] at this
        exact this
    · rename_i h0; exact (h0 he).elim
structure MarkOk (ws ts : List Int) (a n tag : Int) : Prop where
  hm : memR ws ts = true
  htag : tag = 1 ∨ tag = 2
  hn : 1 ≤ n
  ha : 0 ≤ a
  hb : a + n ≤ ws.length
  hl : ts.length = ws.length
  he : ∀ i : Nat, i < n.toNat → markE tag (ts.getD (a.toNat + i) default) = 0
theorem markF_ok {ws ts : List Int} {a n tag : Int} (h : MarkOk ws ts a n tag) : markF ws ts a n tag = ((ws, setR tag ts a.toNat n.toNat), 0) := by
  obtain ⟨h1, h2, h3, h4, h5, h6, h7⟩ := h
  rw [markF_go h1 h2 (by omega), markN_go _ _ _ (by omega) h7]; rfl
theorem markF_inv {ws ts : List Int} {a n tag : Int} (h : (markF ws ts a n tag).2 = 0) : MarkOk ws ts a n tag := by
  by_cases h1 : memR ws ts = true ∧ (tag = 1 ∨ tag = 2)
  · by_cases h2 : n < 1 ∨ a < 0 ∨ ws.length ≤ a ∨ ws.length - a < n
    · rw [markF_range h1.1 h1.2 h2] at h; cases h
    · rw [markF_go h1.1 h1.2 h2] at h
      have hl := (memR_iff.1 h1.1).2.2.1
      split at h
      · rename_i h3
        exact ⟨h1.1, h1.2, by omega, by omega, by omega, hl, markN_inv _ _ _ (by omega) h3⟩
      · rename_i h3; exact (h3 h).elim
  · rw [markF_arg h1] at h; cases h
theorem memR_setR {ws ts : List Int} {tag : Int} {p n : Nat} (h : memR ws ts = true) (ht : tag = 1 ∨ tag = 2) (hp : p + n ≤ ts.length) : memR ws (setR tag ts p n) = true := by
  obtain ⟨g1, g2, g3, g4⟩ := memR_iff.1 h
  refine memR_iff.2 ⟨g1, g2, by rw [setR_len]; exact g3, fun i hi => ?_⟩
  rw [setR_len] at hi
  rw [setR_at _ _ _ _ hp]
  split
  · rcases ht with rfl | rfl <;> simp [okT]
  · exact g4 i hi
theorem MarkOk.again {ws ts : List Int} {a n tag tag' : Int} (h : MarkOk ws ts a n tag) (ht : tag' = 1 ∨ tag' = 2) (he : markE tag' tag = 0) : MarkOk ws (setR tag ts a.toNat n.toNat) a n tag' where
  hm := memR_setR h.hm h.htag (by have := h.hl; have := h.hb; have := h.ha; have := h.hn; omega)
  htag := ht
  hn := h.hn
  ha := h.ha
  hb := h.hb
  hl := by rw [setR_len]; exact h.hl
  he := fun i hi => by
    rw [setR_at _ _ _ _ (by have := h.hl; have := h.hb; have := h.ha; have := h.hn; omega), if_pos (by omega)]
    exact he
theorem MarkOk.bad {ws ts : List Int} {a n tag tag' e : Int} (h : MarkOk ws ts a n tag) (ht : tag' = 1 ∨ tag' = 2) (he : markE tag' tag = e) (h0 : e ≠ 0) : markF ws (setR tag ts a.toNat n.toNat) a n tag' = (([], []), e) := by
  have h1 := h.hn; have h2 := h.ha; have h3 := h.hb; have h4 := h.hl
  have hat : (setR tag ts a.toNat n.toNat).getD a.toNat default = tag := by rw [setR_at _ _ _ _ (by omega), if_pos (by omega)]
  rw [markF_go (memR_setR h.hm h.htag (by omega)) ht (by omega)]
  have : markN tag' (setR tag ts a.toNat n.toNat) a.toNat n.toNat = ([], e) := by
    rw [markN_stop (by omega) (by rw [hat, he]; exact h0), hat, he]
  rw [this]
  simp [h0]
theorem MarkOk.use {ws ts : List Int} {a n tag k : Int} (h : MarkOk ws ts a n tag) (hk : a ≤ k ∧ k < a + n) : useF ws (setR tag ts a.toNat n.toNat) k = whyF tag := by
  have h1 := h.hn; have h2 := h.ha; have h3 := h.hb; have h4 := h.hl
  unfold useF
  rw [if_pos (memR_setR h.hm h.htag (by omega)), if_neg (by omega), setR_at _ _ _ _ (by omega), if_pos (by omega)]
theorem count_set' {l : List Int} {i : Nat} {x t : Int} (h : i < l.length) : ((l.set i x).count t : Int) = l.count t - (if l.getD i default = t then 1 else 0) + if x = t then 1 else 0 := by
  have hc : (if l.getD i default = t then 1 else 0) ≤ l.count t := by
    split
    · rename_i e
      rw [Nat.one_le_iff_ne_zero, ← Nat.pos_iff_ne_zero, List.count_pos_iff]
      rw [← e, List.getD_eq_getElem?_getD, List.getElem?_eq_getElem h]
      exact List.getElem_mem _
    · exact Nat.zero_le _
  rw [List.count_set (by exact h)]
  have e1 : l[i] = l.getD i default := by rw [List.getD_eq_getElem?_getD, List.getElem?_eq_getElem h]; rfl
  simp only [beq_iff_eq, e1]
  by_cases e1 : l.getD i default = t <;> by_cases e2 : x = t <;> simp only [e1, e2, if_true, if_false] at hc ⊢ <;> omega
theorem count_setR {tag old t : Int} : ∀ (n : Nat) (ts : List Int) (p : Nat), p + n ≤ ts.length → (∀ i, i < n → ts.getD (p + i) default = old) →
    ((setR tag ts p n).count t : Int) = ts.count t - (if old = t then (n : Int) else 0) + if tag = t then (n : Int) else 0
  | 0, ts, p, _, _ => by simp [setR]
  | n + 1, ts, p, h, ho => by
    rw [setR, count_setR (old := old) n _ _ (by simp; omega) (fun i hi => by rw [getD_set_ne (by omega), show p + 1 + i = p + (i + 1) by omega]; exact ho _ (by omega)), count_set' (by omega)]
    have := ho 0 (by omega)
    rw [Nat.add_zero] at this
    rw [this]
    by_cases e1 : old = t <;> by_cases e2 : tag = t <;> simp only [e1, e2, if_true, if_false] <;> omega
end Go.Eng
namespace Go.Eng
open Go Go.Proofs
def sTrue (G : Type) (args : G → List RV) : FSpec := spec G args (fun _ => True) fun _ => .b true
def sMemAlive : FSpec := sTrue Unit fun _ => []
def M4 : List (Nat × FSpec) := (15, sMark) :: (41, sStore) :: (60, sLoad) :: (14, sNew) :: M3
theorem M4_ok : GOK Tryd.prog (tab M4) := gok_cons mark_ok (gok_cons store_ok (gok_cons load_ok (gok_cons new_ok (M3_ok))))
def M5 : List (Nat × FSpec) := M4
theorem M5_ok : GOK Tryd.prog (tab M5) := M4_ok
theorem loadF_bad {ws ts : List Int} (h : memR ws ts = false) (a : Int) : loadF ws ts a = (0, 1) := by
  have : useF ws ts a = 1 := by simp [useF, h]
  simp [loadF, this]
theorem storeF_bad {ws ts : List Int} (h : memR ws ts = false) (a v : Int) : storeF ws ts a v = (([], []), 1) := by
  have : useF ws ts a = 1 := by simp [useF, h]
  simp [storeF, this]
theorem storeF_len (ws ts : List Int) (a v : Int) : (storeF ws ts a v).1.1.length ≤ ws.length ∧ (storeF ws ts a v).1.2.length ≤ ts.length := by
  unfold storeF
  split <;> simp
theorem markN_len {tag : Int} : ∀ (n : Nat) (ts : List Int) (p : Nat), (markN tag ts p n).1.length ≤ ts.length
  | 0, ts, p => by simp [markN]
  | n + 1, ts, p => by
    rw [markN]
    split
    · exact Nat.le_trans (markN_len n _ _) (by simp)
    · simp
theorem markF_len (ws ts : List Int) (a n tag : Int) : (markF ws ts a n tag).1.1.length ≤ ws.length ∧ (markF ws ts a n tag).1.2.length ≤ ts.length := by
  unfold markF
  split
  · split
    · simp
    · split
      · exact ⟨Nat.le_refl _, markN_len _ _ _⟩
      · simp
  · simp
theorem sameF_self (a b : List Int) : sameF a b a b = true := by simp [sameF]
def sL4 : FSpec := sTrue (List Int × List Int × Int × Int) fun (ws, ts, a, v) => [.c (intsS ws), .c (intsS ts), .i a, .i v]
def sL5 : FSpec := sTrue (List Int × List Int × Int × Int × Int) fun (ws, ts, a, v, k) => [.c (intsS ws), .c (intsS ts), .i a, .i v, .i k]
def sL3 : FSpec := sTrue (Int × List Int × List Int) fun (n, ws, ts) => [.i n, .c (intsS ws), .c (intsS ts)]
end Go.Eng
