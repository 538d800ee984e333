/- LitmusFences, walked. -/
import Derived.Test.YtgahcoccodhkmaaDoorLtGr
import Derived.Test.YtgahcoccodhkmaaDoorLtPg
set_option linter.unusedVariables false
set_option linter.unusedSimpArgs false
namespace Go.Eng
open Go Go.Proofs

theorem fence_nil : fence [] = [] := rfl
theorem fence_cons (m : Mv) (l : List Mv) : fence (m :: l) = (if m.1 = 0 then [m, fz] else [m]) ++ fence l := by
  unfold fence
  rw [List.flatMap_cons]
theorem fence_app (l l' : List Mv) : fence (l ++ l') = fence l ++ fence l' := by
  unfold fence
  rw [List.flatMap_append]
theorem fence_len : ∀ l : List Mv, l.length ≤ (fence l).length ∧ (fence l).length ≤ 2 * l.length
  | [] => ⟨Nat.le_refl _, Nat.le_refl _⟩
  | m :: l => by
    have h := fence_len l
    rw [fence_cons, List.length_append, List.length_cons]
    split <;> simp only [List.length_cons, List.length_nil] <;> omega
theorem fence_mem {m : Mv} {l : List Mv} (h : m ∈ l) : m ∈ fence l := by
  unfold fence
  refine List.mem_flatMap.2 ⟨m, h, ?_⟩
  split <;> simp
theorem fence_snoc {l : List Mv} {j : Nat} (h : j < l.length) : fence (l.take (j + 1)) = fence (l.take j) ++ (if (l.getD j default).1 = 0 then [l.getD j default, fz] else [l.getD j default]) := by
  rw [take_getD (d := default) h, fence_app, fence_cons, fence_nil, List.append_nil]
theorem fences_flat : ∀ T : List (List Mv), T.flatten.length ≤ (T.map fence).flatten.length
  | [] => Nat.le_refl _
  | l :: T => by
    have h := fences_flat T
    have h1 := (fence_len l).1
    simp only [List.map_cons, List.flatten_cons, List.length_append]
    omega
theorem right_fence {w d : Int} {T : List (List Mv)} (h : rightL w d (T.map fence) = true) : rightL w 0 T = true := by
  have hf := fences_flat T
  unfold rightL at *
  simp only [Bool.and_eq_true, decide_eq_true_eq, Bool.not_eq_true', List.any_eq_false, List.length_map] at *
  refine ⟨⟨h.1.1, by omega, h.1.2.2⟩, by omega, fun m hm => h.2.2 m ?_⟩
  obtain ⟨l, hl, hml⟩ := List.mem_flatten.1 hm
  exact List.mem_flatten.2 ⟨fence l, List.mem_map_of_mem hl, fence_mem hml⟩
theorem out_bad {w d : Int} {ms : List (List Mv)} (h : ¬ errF w d ms = 0) : outF w d ms = [] := by
  unfold outF
  split
  · rename_i h1
    exact absurd (by unfold errF; rw [if_pos h1]) h
  · rfl
theorem fences_in {w d : Int} {T : List (List Mv)} (h : errF w d (T.map fence) = 0) : errF w 0 T = 0 ∧ outF w d (T.map fence) = outF w 0 T ∧ 0 < (outF w d (T.map fence)).length := by
  have h1 := err_zero h
  have h2 := right_fence h1
  refine ⟨by unfold errF; rw [if_pos h2], ?_, outF_pos h1⟩
  refine sorted_ext _ _ (outF_sorted _ _ _) (outF_sorted _ _ _) fun r => ?_
  rw [outF_mem h1, outF_mem h2, List.length_map]
  exact fence_out d.toNat w.toNat T r
theorem cutT_len (ms : List (List Mv)) : (cutT ms).length ≤ 4 ∧ ∀ i, ((cutT ms).getD i default).length ≤ 8 := by
  unfold cutT
  refine ⟨by rw [List.length_map]; exact List.length_take_le _ _, fun i => ?_⟩
  rw [List.getD_eq_getElem?_getD, List.getElem?_map]
  cases (ms.take 4)[i]? with
  | none => exact Nat.zero_le _
  | some l => exact List.length_take_le _ _
theorem fences_short {T : List (List Mv)} (h : ∀ i, (T.getD i default).length ≤ 8) : Short (T.map fence) := fun i => by
  have h1 := h i
  rw [List.getD_eq_getElem?_getD] at *
  rw [List.getElem?_map]
  cases hi : T[i]? with
  | none => exact Nat.zero_le _
  | some l =>
    rw [hi] at h1
    have := (fence_len l).2
    exact Nat.le_trans this (by show 2 * l.length ≤ 1000; have h1 : l.length ≤ 8 := h1; omega)
theorem bytes_mul {n b c m : Nat} (hb : b = c) (h : n * c ≤ m) : n * b ≤ m := by rw [hb]; exact h
theorem snocM1 {L' F : List Mv} {x : Mv} {q : Nat} (e : L' = F ++ [x]) (hq : q = 3) (i : Nat) (hi : i < L'.length) (t : Nat) (ht : t < 3) : slG encM L' i t = catG F.length (slG encM F) (litG q (encM x)) i t := by
  subst e hq
  exact (slG_snoc (enc := encM) (k := 3) rfl rfl i (by simpa using hi) t ht).symm
theorem snocM2 {L' F : List Mv} {x y : Mv} {q : Nat} (e : L' = F ++ [x, y]) (hq : q = 3) (i : Nat) (hi : i < L'.length) (t : Nat) (ht : t < 3) :
    slG encM L' i t = catG (F.length + 1) (catG F.length (slG encM F) (litG q (encM x))) (litG q (encM y)) i t := by
  have h := snocM1 (q := q) (F := F ++ [x]) (x := y) (by rw [e, List.append_assoc]; rfl) hq i hi t ht
  rw [h, List.length_append]
  show catG (F.length + 1) _ _ i t = _
  unfold catG
  split
  · rename_i h1
    have := snocM1 (q := q) (L' := F ++ [x]) (F := F) (x := x) rfl hq i (by rw [List.length_append]; exact h1) t ht
    rw [this]
    rfl
  · rfl
theorem snocT {L L' : List (List Mv)} {x : List Mv} {n q : Nat} (hn : n = L.length) (e : L' = L ++ [x]) (hq : q = 1) (i : Nat) (hi : i < n + 1) (t : Nat) (ht : t < 1) : slG mvsE L' i t = catG n (slG mvsE L) (litG q [slC 3 encM x]) i t := by
  subst e hq hn
  exact (slG_snoc (enc := mvsE) (k := 1) rfl rfl i hi t ht).symm
theorem fences_take {T : List (List Mv)} {k j : Nat} (hk : k < T.length) (hj : ¬ j < (T.getD k default).length) : (T.map fence).take (k + 1) = (T.map fence).take k ++ [fence ((T.getD k default).take j)] := by
  rw [take_getD (d := default) (by rw [List.length_map]; exact hk), List.take_of_length_le (Nat.le_of_not_lt hj)]
  congr 2
  exact fence_get T k
noncomputable def sFences : FSpec := spec (Int × Int × List (List Mv)) (fun (w, d, ms) => [.i w, .i d, .c (slC 1 mvsE ms)]) (fun _ => True) fun _ => .b true
set_option maxHeartbeats 1000000 in
set_option maxRecDepth 100000 in
theorem fences_ok : Meets Tryd.prog 3 sFences := by
  refine meets_plain KL_ok rfl [2, 16, 17, 19] (fn := Tryd.f3) rfl rfl rfl (by decide) fun ⟨w, d, ms⟩ _ => ?_
  obtain ⟨T, hT⟩ : ∃ T, T = cutT ms := ⟨_, rfl⟩
  have hsh : Short T := by rw [hT]; exact cutT_short ms
  have hl4 : T.length ≤ 4 := by rw [hT]; exact (cutT_len ms).1
  have hl8 : ∀ i, (T.getD i default).length ≤ 8 := by rw [hT]; exact (cutT_len ms).2
  repeat' (first | exact @id (emp _ = true) | (intro h; first | exact Bool.noConfusion h | (simp only [Qn] at h) | skip) | ((conv => whnf) <;> (first | exact trivial | apply Qa | apply And.intro | apply Qb | apply Qc | apply Qd | apply Qe | apply Qf | apply Qg | apply Qh | apply Qi | exact QA | exact QP | refine QG ?_ | apply Qj | apply Qk | apply Ql | apply Qm | apply Qo | apply Qp | apply Qw | apply Qv | apply Qu | apply Qt | apply Qs | apply Qr | apply Qq | apply Qx | apply wrapS | apply Qy | (with_reducible exact lenNil) | apply Eq.refl)) | ((with_reducible first | apply Y1 | apply Y2 | apply Y3 | show blkEq _ _ _); conv => whnf))
  (conv => whnf)
  apply CutP.to (G := Unit) (fun _ => True) [0, 1, 7] (fun _ => [(7, .s (.c (.ptr 0 0)))]) (fun _ => [(0, .row 24 (litC w d T))]) 1
  apply And.intro
  · subst hT
    repeat' (first | exact @id (emp _ = true) | (intro h; first | exact Bool.noConfusion h | (simp only [Qn] at h) | skip) | ((conv => whnf) <;> (first | exact trivial | apply Qa | apply And.intro | apply Qb | apply Qc | apply Qd | apply Qe | apply Qf | apply Qg | apply Qh | apply Qi | exact QA | exact QP | refine QG ?_ | apply Qj | apply Qk | apply Ql | apply Qm | apply Qo | apply Qp | apply Qw | apply Qv | apply Qu | apply Qt | apply Qs | apply Qr | apply Qq | apply Qx | apply wrapS | apply Qy | (with_reducible exact lenNil) | apply Eq.refl)) | ((with_reducible first | apply Y1 | apply Y2 | apply Y3 | show blkEq _ _ _); conv => whnf))
    all_goals trace_state
  rintro ⟨⟩ _
  (conv => whnf)
  repeat' (first | exact @id (emp _ = true) | (intro h; first | exact Bool.noConfusion h | (simp only [Qn] at h) | skip) | ((conv => whnf) <;> (first | exact trivial | apply Qa | apply And.intro | apply Qb | apply Qc | apply Qd | apply Qe | apply Qf | apply Qg | apply Qh | apply Qi | exact QA | exact QP | refine QG ?_ | apply Qj | apply Qk | apply Ql | apply Qm | apply Qo | apply Qp | apply Qw | apply Qv | apply Qu | apply Qt | apply Qs | apply Qr | apply Qq | apply Qx | apply wrapS | apply Qy | (with_reducible exact lenNil) | apply Eq.refl)) | ((with_reducible first | apply Y1 | apply Y2 | apply Y3 | show blkEq _ _ _); conv => whnf))
  apply CutP.to (G := Unit) (fun _ => True) [7, 8] (fun _ => [(7, .s (.c (.ptr 0 0))), (8, .s (.c (.ptr 1 0)))]) (fun _ => [(0, .row 24 (litC w d T)), (1, .row 24 [.i w, .i d, .osl 2]), (2, .slc 26 1 T.length (slG mvsE (T.map fence)))]) 3
  apply And.intro
  · repeat' (first | exact @id (emp _ = true) | (intro h; first | exact Bool.noConfusion h | (simp only [Qn] at h) | skip) | ((conv => whnf) <;> (first | exact trivial | apply Qa | apply And.intro | apply Qb | apply Qc | apply Qd | apply Qe | apply Qf | apply Qg | apply Qh | apply Qi | exact QA | exact QP | refine QG ?_ | apply Qj | apply Qk | apply Ql | apply Qm | apply Qo | apply Qp | apply Qw | apply Qv | apply Qu | apply Qt | apply Qs | apply Qr | apply Qq | apply Qx | apply wrapS | apply Qy | (with_reducible exact lenNil) | apply Eq.refl)) | ((with_reducible first | apply Y1 | apply Y2 | apply Y3 | show blkEq _ _ _); conv => whnf))
    apply LoopP.to (G := Nat) (fun k => k ≤ T.length) [7, 8, 26, 27, 28] (fun k => [(7, .s (.c (.ptr 0 0))), (8, .s (.c (.ptr 1 0))), (26, .s (.c (slC 1 mvsE T))), (27, .s (.c (.i T.length))), (28, .i k)])
      (fun k => [(0, .row 24 (litC w d T)), (1, .row 24 [.i w, .i d, .osl 2]), (2, .slc 26 1 k (slG mvsE ((T.map fence).take k)))]) 3 (fun k => T.length - k)
    apply And.intro
    · refine CutE.at 0 ⟨EntP.at [⟨true, 1, 2, 26, 1⟩] [0, 1, 2] ?_, ?_⟩
      all_goals repeat' (first | exact @id (emp _ = true) | (intro h; first | exact Bool.noConfusion h | (simp only [Qn] at h) | skip) | ((conv => whnf) <;> (first | exact trivial | apply Qa | apply And.intro | apply Qb | apply Qc | apply Qd | apply Qe | apply Qf | apply Qg | apply Qh | apply Qi | exact QA | exact QP | refine QG ?_ | apply Qj | apply Qk | apply Ql | apply Qm | apply Qo | apply Qp | apply Qw | apply Qv | apply Qu | apply Qt | apply Qs | apply Qr | apply Qq | apply Qx | apply wrapS | apply Qy | (with_reducible exact lenNil) | apply Eq.refl)) | ((with_reducible first | apply Y1 | apply Y2 | apply Y3 | show blkEq _ _ _); conv => whnf))
      all_goals first
        | exact Nat.zero_le _
        | (rename_i i hi t; exact absurd hi (Nat.not_lt_zero _))
        | trace_state
    intro k hk
    repeat' (first | exact @id (emp _ = true) | (intro h; first | exact Bool.noConfusion h | (simp only [Qn] at h) | skip) | ((conv => whnf) <;> (first | exact trivial | apply Qa | apply And.intro | apply Qb | apply Qc | apply Qd | apply Qe | apply Qf | apply Qg | apply Qh | apply Qi | exact QA | exact QP | refine QG ?_ | apply Qj | apply Qk | apply Ql | apply Qm | apply Qo | apply Qp | apply Qw | apply Qv | apply Qu | apply Qt | apply Qs | apply Qr | apply Qq | apply Qx | apply wrapS | apply Qy | (with_reducible exact lenNil) | apply Eq.refl)) | ((with_reducible first | apply Y1 | apply Y2 | apply Y3 | show blkEq _ _ _); conv => whnf))
    · omega
    · omega
    · (conv => whnf)
      apply LoopP.to (G := Nat × Unit) (fun (j, _) => j ≤ (T.getD k default).length) [7, 8, 11, 26, 27, 28, 32, 33, 34] (fun (j, _) => [(7, .s (.c (.ptr 0 0))), (8, .s (.c (.ptr 1 0))), (11, .s (.c (.osl 3))), (26, .s (.c (slC 1 mvsE T))), (27, .s (.c (.i T.length))), (28, .i k), (32, .s (.c (slC 3 encM (T.getD k default)))), (33, .s (.c (.i (T.getD k default).length))), (34, .i j)])
        (fun (j, _) => [(0, .row 24 (litC w d T)), (1, .row 24 [.i w, .i d, .osl 2]), (2, .slc 26 1 k (slG mvsE ((T.map fence).take k))), (3, .slc 28 3 (fence ((T.getD k default).take j)).length (slG encM (fence ((T.getD k default).take j))))]) 4 (fun (j, _) => (T.getD k default).length - j)
      apply And.intro
      · refine CutE.at (0, ()) ⟨EntP.at [⟨false, 11, 0, 28, 3⟩] [0, 1, 2, 3] ?_, ?_⟩
        all_goals repeat' (first | exact @id (emp _ = true) | (intro h; first | exact Bool.noConfusion h | (simp only [Qn] at h) | skip) | ((conv => whnf) <;> (first | exact trivial | apply Qa | apply And.intro | apply Qb | apply Qc | apply Qd | apply Qe | apply Qf | apply Qg | apply Qh | apply Qi | exact QA | exact QP | refine QG ?_ | apply Qj | apply Qk | apply Ql | apply Qm | apply Qo | apply Qp | apply Qw | apply Qv | apply Qu | apply Qt | apply Qs | apply Qr | apply Qq | apply Qx | apply wrapS | apply Qy | (with_reducible exact lenNil) | apply Eq.refl)) | ((with_reducible first | apply Y1 | apply Y2 | apply Y3 | show blkEq _ _ _); conv => whnf))
        all_goals first
          | exact Nat.zero_le _
          | (rename_i i hi t; exact absurd hi (Nat.not_lt_zero _))
          | trace_state
      rintro ⟨j, _⟩ hj
      have hj : j ≤ (T.getD k default).length := hj
      have hm8 := hl8 k
      have hfj : (fence (List.take j (T.getD k default))).length ≤ 16 := by
        have := (fence_len (List.take j (T.getD k default))).2
        rw [List.length_take] at this
        omega
      have htk : ((T.map fence).take k).length = k := by rw [List.length_take, List.length_map]; exact Nat.min_eq_left hk
      repeat' (first | exact @id (emp _ = true) | (intro h; first | exact Bool.noConfusion h | (simp only [Qn] at h) | skip) | ((conv => whnf) <;> (first | exact trivial | apply Qa | apply And.intro | refine CutE.at (A := Nat) (k + 1) ?_ | refine CutE.at (A := Nat × Unit) (j + 1, ()) ?_ | apply Qb | apply Qc | apply Qd | apply Qe | apply Qf | apply Qg | apply Qh | apply Qi | exact QA | exact QP | refine QG ?_ | apply Qj | apply Qk | apply Ql | apply Qm | apply Qo | apply Qp | apply Qw | apply Qv | apply Qu | apply Qt | apply Qs | apply Qr | apply Qq | apply Qx | apply wrapS | apply Qy | (with_reducible exact lenNil) | apply Eq.refl)) | ((with_reducible first | apply Y1 | apply Y2 | apply Y3 | show blkEq _ _ _); conv => whnf))
      all_goals try simp only [Int.toNat_natCast] at *
      all_goals first
        | omega
        | ((with_reducible refine bytes_mul (c := 24) ?hb ?hn); (case hb => exact rfl); (case hn => omega))
        | (show (T.getD k default).length - (j + 1) < (T.getD k default).length - j; omega)
        | (show T.length - (k + 1) < T.length - k; omega)
        | (show j + 1 ≤ (T.getD k default).length; omega)
        | (show k + 1 ≤ T.length; omega)
        | (rw [fence_snoc (by omega), if_pos (by assumption), List.length_append] <;> rfl)
        | (rw [fence_snoc (by omega), if_neg (by assumption), List.length_append] <;> rfl)
        | exact snocM2 (x := (T.getD k default).getD j default) (y := fz) (by rw [fence_snoc (by omega), if_pos (by assumption)]) rfl _ (by assumption) _ (by assumption)
        | exact snocM1 (x := (T.getD k default).getD j default) (by rw [fence_snoc (by omega), if_neg (by assumption)]) rfl _ (by assumption) _ (by assumption)
        | exact snocT htk.symm (fences_take (by omega) (by omega)) rfl _ (by assumption) _ (by assumption)
        | trace_state
    all_goals first
      | omega
      | exact slG_all (by rw [List.length_map]; omega)
      | trace_state
  rintro ⟨⟩ _
  obtain ⟨L, hL⟩ : ∃ L, L = outF w d (T.map fence) := ⟨_, rfl⟩
  obtain ⟨E, hE⟩ : ∃ E, E = errF w d (T.map fence) := ⟨_, rfl⟩
  have hrows := outF_rows5 w d (T.map fence)
  have hbad : ¬ E = 0 → L = [] := fun h => by rw [hL]; exact out_bad (by rw [← hE]; exact h)
  have hgood : E = 0 → errF w 0 T = 0 ∧ L = outF w 0 T ∧ 0 < L.length := fun h => by rw [hL]; exact fences_in (by rw [← hE]; exact h)
  rw [← hL] at hrows
  (conv => whnf)
  apply CutP.to (G := Unit) (fun _ => True) [7, 14, 15] (fun _ => [(7, .s (.c (.ptr 0 0))), (14, .s (.c (slC 1 rowE L))), (15, .i E)]) (fun _ => [(0, .row 24 (litC w d T))]) 1
  apply And.intro
  · subst hL hE
    repeat' (first | exact @id (emp _ = true) | (intro h; first | exact Bool.noConfusion h | (simp only [Qn] at h) | skip) | ((conv => whnf) <;> (first | exact trivial | apply Qa | apply And.intro | refine CutE.at (A := Int × Int × List (List Mv)) (w, d, T.map fence) ?_ | apply Qb | apply Qc | apply Qd | apply Qe | apply Qf | apply Qg | apply Qh | apply Qi | exact QA | exact QP | refine QG ?_ | apply Qj | apply Qk | apply Ql | apply Qm | apply Qo | apply Qp | apply Qw | apply Qv | apply Qu | apply Qt | apply Qs | apply Qr | apply Qq | apply Qx | apply wrapS | apply Qy | (with_reducible exact lenNil) | apply Eq.refl)) | ((with_reducible first | apply Y1 | apply Y2 | apply Y3 | show blkEq _ _ _); conv => whnf))
    all_goals first
      | exact fences_short hl8 _
      | exact (List.length_map _).symm
      | exact List.length_map _
      | trace_state
  rintro ⟨⟩ _
  (conv => whnf)
  repeat' (first | exact @id (emp _ = true) | (intro h; first | exact Bool.noConfusion h | (simp only [Qn] at h) | skip) | ((conv => whnf) <;> (first | exact trivial | apply Qa | apply And.intro | apply Qb | apply Qc | apply Qd | apply Qe | apply Qf | apply Qg | apply Qh | apply Qi | exact QA | exact QP | refine QG ?_ | apply Qj | apply Qk | apply Ql | apply Qm | apply Qo | apply Qp | apply Qw | apply Qv | apply Qu | apply Qt | apply Qs | apply Qr | apply Qq | apply Qx | apply wrapS | apply Qy | (with_reducible exact lenNil) | apply Eq.refl)) | ((with_reducible first | apply Y1 | apply Y2 | apply Y3 | show blkEq _ _ _); conv => whnf))
  (conv => whnf)
  obtain ⟨M, hM⟩ : ∃ M, M = outF w 0 T := ⟨_, rfl⟩
  obtain ⟨F, hF⟩ : ∃ F, F = errF w 0 T := ⟨_, rfl⟩
  rw [← hM, ← hF] at hgood
  apply CutP.to (G := Unit) (fun _ => True) [14, 15, 16, 17] (fun _ => [(14, .s (.c (slC 1 rowE L))), (15, .i E), (16, .s (.c (slC 1 rowE M))), (17, .i F)]) (fun _ => []) 0
  apply And.intro
  · subst hM hF
    repeat' (first | exact @id (emp _ = true) | (intro h; first | exact Bool.noConfusion h | (simp only [Qn] at h) | skip) | ((conv => whnf) <;> (first | exact trivial | apply Qa | apply And.intro | refine CutE.at (A := Int × Int × List (List Mv)) (w, 0, T) ?_ | apply Qb | apply Qc | apply Qd | apply Qe | apply Qf | apply Qg | apply Qh | apply Qi | exact QA | exact QP | refine QG ?_ | apply Qj | apply Qk | apply Ql | apply Qm | apply Qo | apply Qp | apply Qw | apply Qv | apply Qu | apply Qt | apply Qs | apply Qr | apply Qq | apply Qx | apply wrapS | apply Qy | (with_reducible exact lenNil) | apply Eq.refl)) | ((with_reducible first | apply Y1 | apply Y2 | apply Y3 | show blkEq _ _ _); conv => whnf))
    all_goals first
      | exact hsh _
      | trace_state
  rintro ⟨⟩ _
  (conv => whnf)
  repeat' (first | exact @id (emp _ = true) | (intro h; first | exact Bool.noConfusion h | (simp only [Qn] at h) | skip) | ((conv => whnf) <;> (first | exact trivial | apply Qa | apply And.intro | apply Qb | apply Qc | apply Qd | apply Qe | apply Qf | apply Qg | apply Qh | apply Qi | exact QA | exact QP | refine QG ?_ | apply Qj | apply Qk | apply Ql | apply Qm | apply Qo | apply Qp | apply Qw | apply Qv | apply Qu | apply Qt | apply Qs | apply Qr | apply Qq | apply Qx | apply wrapS | apply Qy | (with_reducible exact lenNil) | apply Eq.refl)) | ((with_reducible first | apply Y1 | apply Y2 | apply Y3 | show blkEq _ _ _); conv => whnf))
  all_goals first
    | exact hrows.1
    | exact hrows.2 _
    | (rw [hbad (by assumption)]; rfl)
    | exact (decide_eq_true (hgood (by assumption)).2.1).symm
    | (have h := hgood (by assumption); exfalso; omega)
    | (have h := hgood (by assumption); exact absurd h.1 (by assumption))
    | trace_state
end Go.Eng
