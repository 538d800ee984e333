/- A part of the walks, and of the machine that proves them (LtI). -/
import Derived.Test.YtgahcoccodhkmaaDoorLtZ
import Derived.Test.YtgahcoccodhkmaaDoorLtPg
set_option linter.unusedVariables false
set_option linter.unusedSimpArgs false
namespace Go.Eng
open Go Go.Proofs
def sIn : FSpec := spec (Int × Int × Int) (fun (n, a, b) => [.i n, .i a, .i b]) (fun _ => True) fun (n, a, b) => .b (decide (a ≤ n ∧ n ≤ b))
set_option maxRecDepth 100000 in
theorem in_ok : Meets Tryd.prog 29 sIn := by
  refine meets_plain (gok_nil _) rfl [] (fn := Tryd.f29) rfl rfl rfl (by decide) fun ⟨n, a, b⟩ _ => ?_
  repeat' (first | exact @id (emp _ = true) | (intro h; first | exact Bool.noConfusion h | (simp only [Qn] at h) | skip) | ((conv => whnf) <;> (first | exact trivial | apply Qa | apply And.intro | apply Qb | apply Qc | apply Qd | apply Qe | apply Qf | apply Qg | apply Qh | apply Qi | exact QA | exact QP | refine QG ?_ | apply Qj | apply Qk | apply Ql | apply Qm | apply Qo | apply Qp | apply Qw | apply Qv | apply Qu | apply Qt | apply Qs | apply Qr | apply Qq | apply Qx | apply wrapS | apply Qy | (with_reducible exact lenNil) | apply Eq.refl)) | ((with_reducible first | apply Y1 | apply Y2 | apply Y3 | show blkEq _ _ _); conv => whnf))
  all_goals first
    | (show decide (a ≤ n ∧ n ≤ b) = _; (first | (apply decide_eq_false; omega) | (apply decide_eq_true; omega) | (congr 1; apply propext; omega)))
    | trace_state
/-- May a move be? -/
def mOk (w : Int) (m : Mv) : Prop := 0 ≤ m.1 ∧ m.1 ≤ 3 ∧ 0 ≤ m.2.1 ∧ m.2.1 ≤ w - 1 ∧ 0 ≤ m.2.2 ∧ m.2.2 ≤ 9 ∧ (m.1 = 1 → m.2.2 = 0) ∧ (m.1 = 2 → m.2.1 = 0 ∧ m.2.2 = 0)
instance (w : Int) (m : Mv) : Decidable (mOk w m) := by unfold mOk; infer_instance
def badM (w : Int) (m : Mv) : Bool := !decide (mOk w m)
theorem badM_t {w : Int} {m : Mv} (h : ¬ mOk w m) : true = badM w m := by unfold badM; rw [decide_eq_false h]; rfl
theorem badM_f {w : Int} {m : Mv} (h : mOk w m) : false = badM w m := by unfold badM; rw [decide_eq_true h]; rfl
def sBadM : FSpec := lentSpec 1 (Mv × Int × Int × List (List Mv)) (fun (m, _) => [.agg (encM m), .c (.ptr 0 0)]) (fun (_, w, d, ms) => [.row 24 (litC w d ms)]) (fun (_, w, _) => 1 ≤ w ∧ w ≤ 3) (fun (m, w, _) => .b (badM w m)) fun (_, w, d, ms) => [.row 24 (litC w d ms)]
set_option maxHeartbeats 4000000 in
set_option maxRecDepth 100000 in
theorem rbad_ok : Meets Tryd.prog 32 sBadM := by
  refine meets_lent 1 (gok_cons in_ok (gok_nil _) : GOK Tryd.prog (tab [(29, sIn)])) rfl [] (fn := Tryd.f32) rfl rfl rfl (by decide) (fun _ => rfl) (fun _ => rfl) (by decide) fun ⟨⟨k, a, v⟩, w, d, ms⟩ hw => ?_
  have hw : 1 ≤ w ∧ w ≤ 3 := hw
  have hw1 : IntKind.i64.wrap (w - 1) = w - 1 := wrap_i64 ⟨by omega, by omega⟩
  repeat' (first | exact @id (emp _ = true) | (intro h; first | exact Bool.noConfusion h | (simp only [Qn] at h) | skip) | ((conv => whnf) <;> (first | exact trivial | apply Qa | apply And.intro | apply Qb | apply Qc | apply Qd | apply Qe | apply Qf | apply Qg | apply Qh | apply Qi | exact QA | exact QP | refine QG ?_ | apply Qj | apply Qk | apply Ql | apply Qm | apply Qo | apply Qp | apply Qw | apply Qv | apply Qu | apply Qt | apply Qs | apply Qr | apply Qq | apply Qx | apply wrapS | apply Qy | (with_reducible exact lenNil) | apply Eq.refl)) | ((with_reducible first | apply Y1 | apply Y2 | apply Y3 | show blkEq _ _ _); conv => whnf))
  all_goals try simp only [hw1] at *
  all_goals first
    | (exact (badM_t (fun h => by unfold mOk at h; simp only at h; omega)).symm)
    | (exact (badM_f (by unfold mOk; simp only; omega)).symm)
    | (by_cases hm : mOk w (k, a, v)
       · rw [← badM_f hm]
         unfold mOk at hm
         simp only at hm
         (first | rfl | (apply Eq.symm; apply decide_eq_false; omega) | (apply Eq.symm; apply bne_eq_false_iff_eq.2; omega) | (exfalso; omega))
       · rw [← badM_t hm]
         unfold mOk at hm
         simp only at hm
         (first | rfl | (apply Eq.symm; apply decide_eq_true; omega) | (apply Eq.symm; apply bne_iff_ne.2; omega) | (exfalso; omega)))
    | trace_state
def idxM (w : Int) : List Mv → Nat → Int
  | [], _ => -1
  | p :: r, k => if badM w p = true then k else idxM w r (k + 1)
theorem idxM_any (w : Int) : ∀ (b : List Mv) (k : Nat), decide (0 ≤ idxM w b k) = b.any (badM w)
  | [], _ => rfl
  | p :: r, k => by
    rw [idxM, List.any_cons]
    by_cases h : badM w p = true
    · rw [if_pos h, h]; simp
    · have h' : badM w p = false := by simpa using h
      rw [if_neg h, h', idxM_any w r (k + 1)]; rfl
def sIdxM : FSpec := lentSpec 1 (List Mv × Int × Int × List (List Mv)) (fun (b, _) => [.c (slC 3 encM b), .c (.fn 32 [.ptr 0 0])]) (fun (_, w, d, ms) => [.row 24 (litC w d ms)]) (fun (b, w, _) => b.length ≤ 1000000 ∧ 1 ≤ w ∧ w ≤ 3)
  (fun (b, w, _) => .i (idxM w b 0)) fun (_, w, d, ms) => [.row 24 (litC w d ms)]
def K1 : List (Nat × FSpec) := [(32, sBadM), (29, sIn)]
theorem K1_ok : GOK Tryd.prog (tab K1) := gok_cons rbad_ok (gok_cons in_ok (gok_nil _))
set_option maxHeartbeats 4000000 in
set_option maxRecDepth 100000 in
theorem idxM_ok : Meets Tryd.prog 53 sIdxM := by
  refine meets_lent 1 K1_ok rfl [] (fn := Tryd.f53) rfl rfl rfl (by decide) (fun _ => rfl) (fun _ => rfl) (by decide) fun ⟨b, w, d, ms⟩ h => ?_
  obtain ⟨hb, hw⟩ : b.length ≤ 1000000 ∧ 1 ≤ w ∧ w ≤ 3 := h
  repeat' (first | exact @id (emp _ = true) | (intro h; first | exact Bool.noConfusion h | (simp only [Qn] at h) | skip) | ((conv => whnf) <;> (first | exact trivial | apply Qa | apply And.intro | apply Qb | apply Qc | apply Qd | apply Qe | apply Qf | apply Qg | apply Qh | apply Qi | exact QA | exact QP | refine QG ?_ | apply Qj | apply Qk | apply Ql | apply Qm | apply Qo | apply Qp | apply Qw | apply Qv | apply Qu | apply Qt | apply Qs | apply Qr | apply Qq | apply Qx | apply wrapS | apply Qy | (with_reducible exact lenNil) | apply Eq.refl)) | ((with_reducible first | apply Y1 | apply Y2 | apply Y3 | show blkEq _ _ _); conv => whnf))
  apply LoopP.up (G := Nat) (fun k => k ≤ b.length ∧ idxM w b 0 = idxM w (b.drop k) k) [0, 1, 7, 8] (fun k => [(8, .i k)]) (fun _ => []) 1 (fun k => b.length - k)
  apply And.intro
  · refine CutE.at 0 ?_
    repeat' (first | exact @id (emp _ = true) | (intro h; first | exact Bool.noConfusion h | (simp only [Qn] at h) | skip) | ((conv => whnf) <;> (first | exact trivial | apply Qa | apply And.intro | apply Qb | apply Qc | apply Qd | apply Qe | apply Qf | apply Qg | apply Qh | apply Qi | exact QA | exact QP | refine QG ?_ | apply Qj | apply Qk | apply Ql | apply Qm | apply Qo | apply Qp | apply Qw | apply Qv | apply Qu | apply Qt | apply Qs | apply Qr | apply Qq | apply Qx | apply wrapS | apply Qy | (with_reducible exact lenNil) | apply Eq.refl)) | ((with_reducible first | apply Y1 | apply Y2 | apply Y3 | show blkEq _ _ _); conv => whnf))
    all_goals try simp only [Int.toNat_natCast, Int.toNat_zero, ge_iff_le, gt_iff_lt, Int.ofNat_le, Int.ofNat_lt, Int.ofNat_inj] at *
    all_goals first
      | omega
      | (dsimp only; omega)
      | assumption
      | exact Up.zero _
      | (show ((8 : Nat) : Int) * _ ≤ _; omega)
      | (show _ * (8 : Nat) ≤ _; omega)
      | (show _ * (16 : Nat) ≤ _; omega)
      | (show _ * (24 : Nat) ≤ _; omega)
      | trace_state
  · intro k ⟨hk, hI⟩
    have hs : k < b.length → idxM w (b.drop k) k = if badM w (b.getD k default) = true then (k : Int) else idxM w (b.drop (k + 1)) (k + 1) := fun h => by rw [drop_getD (d := default) h, idxM]
    repeat' (first | exact @id (emp _ = true) | (intro h; first | exact Bool.noConfusion h | (simp only [Qn] at h) | skip) | ((conv => whnf) <;> (first | exact trivial | apply Qa | apply And.intro | refine CutE.at (A := Nat) (k + 1) ?_ | refine CutE.at (A := Mv × Int × Int × List (List Mv)) (b.getD k default, w, d, ms) ?_ | apply Qb | apply Qc | apply Qd | apply Qe | apply Qf | apply Qg | apply Qh | apply Qi | exact QA | exact QP | refine QG ?_ | apply Qj | apply Qk | apply Ql | apply Qm | apply Qo | apply Qp | apply Qw | apply Qv | apply Qu | apply Qt | apply Qs | apply Qr | apply Qq | apply Qx | apply wrapS | apply Qy | (with_reducible exact lenNil) | apply Eq.refl)) | ((with_reducible first | apply Y1 | apply Y2 | apply Y3 | show blkEq _ _ _); conv => whnf))
    all_goals try simp only [Int.toNat_natCast] at *
    all_goals first
      | omega
      | exact hw.1
      | exact hw.2
      | (rw [hI, hs (by omega), if_pos (by assumption)])
      | (rw [hI, hs (by omega), h]; rfl)
      | (rw [hI, List.drop_eq_nil_of_le (by omega)]; rfl)
      | trace_state
def sContM : FSpec := lentSpec 1 (List Mv × Int × Int × List (List Mv)) (fun (b, _) => [.c (slC 3 encM b), .c (.fn 32 [.ptr 0 0])]) (fun (_, w, d, ms) => [.row 24 (litC w d ms)]) (fun (b, w, _) => b.length ≤ 1000000 ∧ 1 ≤ w ∧ w ≤ 3)
  (fun (b, w, _) => .b (b.any (badM w))) fun (_, w, d, ms) => [.row 24 (litC w d ms)]
def K2 : List (Nat × FSpec) := (53, sIdxM) :: K1
theorem K2_ok : GOK Tryd.prog (tab K2) := gok_cons idxM_ok K1_ok
set_option maxHeartbeats 4000000 in
set_option maxRecDepth 100000 in
theorem contM_ok : Meets Tryd.prog 31 sContM := by
  refine meets_lent 1 K2_ok rfl [] (fn := Tryd.f31) rfl rfl rfl (by decide) (fun _ => rfl) (fun _ => rfl) (by decide) fun ⟨b, w, d, ms⟩ h => ?_
  obtain ⟨hb, hw⟩ : b.length ≤ 1000000 ∧ 1 ≤ w ∧ w ≤ 3 := h
  have hi := idxM_any w b 0
  repeat' (first | exact @id (emp _ = true) | (intro h; first | exact Bool.noConfusion h | (simp only [Qn] at h) | skip) | ((conv => whnf) <;> (first | exact trivial | apply Qa | apply And.intro | apply Qb | apply Qc | apply Qd | apply Qe | apply Qf | apply Qg | apply Qh | apply Qi | exact QA | exact QP | refine QG ?_ | apply Qj | apply Qk | apply Ql | apply Qm | apply Qo | apply Qp | apply Qw | apply Qv | apply Qu | apply Qt | apply Qs | apply Qr | apply Qq | apply Qx | apply wrapS | apply Qy | (with_reducible exact lenNil) | apply Eq.refl)) | ((with_reducible first | apply Y1 | apply Y2 | apply Y3 | show blkEq _ _ _); conv => whnf))
  all_goals first
    | exact hb
    | exact hw.1
    | exact hw.2
    | exact hi.symm
    | trace_state
/-- May a test be? -/
def rightL (w d : Int) (ms : List (List Mv)) : Bool := decide ((1 ≤ w ∧ w ≤ 3) ∧ (0 ≤ d ∧ d ≤ 3) ∧ (1 ≤ ms.length ∧ ms.length ≤ 3)) && (decide (ms.flatten.length ≤ 6) && !ms.flatten.any (badM w))
def Short (ms : List (List Mv)) : Prop := ∀ i, (ms.getD i default).length ≤ 1000
def sRight : FSpec := spec (Int × Int × List (List Mv)) (fun (w, d, ms) => [.agg (litC w d ms)]) (fun (_, _, ms) => Short ms) fun (w, d, ms) => .b (rightL w d ms)
def K3 : List (Nat × FSpec) := (31, sContM) :: (30, sConcM) :: K1
theorem K3_ok : GOK Tryd.prog (tab K3) := gok_cons contM_ok (gok_cons concM_ok K1_ok)
set_option maxHeartbeats 4000000 in
set_option maxRecDepth 100000 in
theorem right_ok : Meets Tryd.prog 13 sRight := by
  refine meets_plain K3_ok rfl [] (fn := Tryd.f13) rfl rfl rfl (by decide) fun ⟨w, d, ms⟩ hs => ?_
  have hs : Short ms := hs
  have hfl : ms.length ≤ 3 → ms.flatten.length ≤ 1000000 := fun h => by
    have h1 := flat_le hs ms.length
    rw [List.take_length] at h1
    omega
  have e1 : ¬ ((1 ≤ w ∧ w ≤ 3) ∧ (0 ≤ d ∧ d ≤ 3) ∧ (1 ≤ ms.length ∧ ms.length ≤ 3)) → rightL w d ms = false := fun h => by unfold rightL; rw [decide_eq_false h]; rfl
  have e2 : ((1 ≤ w ∧ w ≤ 3) ∧ (0 ≤ d ∧ d ≤ 3) ∧ (1 ≤ ms.length ∧ ms.length ≤ 3)) → rightL w d ms = (decide (ms.flatten.length ≤ 6) && !ms.flatten.any (badM w)) := fun h => by unfold rightL; rw [decide_eq_true h]; rfl
  repeat' (first | exact @id (emp _ = true) | (intro h; first | exact Bool.noConfusion h | (simp only [Qn] at h) | skip) | ((conv => whnf) <;> (first | exact trivial | apply Qa | apply And.intro | apply Qb | apply Qc | apply Qd | apply Qe | apply Qf | apply Qg | apply Qh | apply Qi | exact QA | exact QP | refine QG ?_ | apply Qj | apply Qk | apply Ql | apply Qm | apply Qo | apply Qp | apply Qw | apply Qv | apply Qu | apply Qt | apply Qs | apply Qr | apply Qq | apply Qx | apply wrapS | apply Qy | (with_reducible exact lenNil) | apply Eq.refl)) | ((with_reducible first | apply Y1 | apply Y2 | apply Y3 | show blkEq _ _ _); conv => whnf))
  all_goals first
    | exact hs _
    | (rw [e1 (by omega)]; done)
    | omega
    | (rw [e2 (by omega), decide_eq_true (by omega), Bool.true_and])
    | (rw [e2 (by omega), decide_eq_false (by omega), Bool.false_and])
    | trace_state
/-- A test that may be. -/
theorem right_iff {w d : Int} {ms : List (List Mv)} (h : rightL w d ms = true) : ((1 ≤ w ∧ w ≤ 3) ∧ (0 ≤ d ∧ d ≤ 3) ∧ (1 ≤ ms.length ∧ ms.length ≤ 3)) ∧ ms.flatten.length ≤ 6 ∧ ∀ m ∈ ms.flatten, mOk w m := by
  unfold rightL at h
  simp only [Bool.and_eq_true, decide_eq_true_eq, Bool.not_eq_true', List.any_eq_false] at h
  refine ⟨h.1, h.2.1, fun m hm => ?_⟩
  have := h.2.2 m hm
  unfold badM at this
  simpa using this
theorem flat_mem {ms : List (List Mv)} (i : Nat) : ∀ m ∈ ms.getD i [], m ∈ ms.flatten := fun m hm => by
  rw [List.getD_eq_getElem?_getD] at hm
  cases e : ms[i]? with
  | none => rw [e] at hm; simp at hm
  | some l =>
    rw [e] at hm
    exact List.mem_flatten.2 ⟨l, List.mem_of_getElem? e, hm⟩
theorem flat_one : ∀ (ms : List (List Mv)) (i : Nat), (ms.getD i []).length ≤ ms.flatten.length
  | [], i => by simp
  | l :: ms, 0 => by simp
  | l :: ms, i + 1 => by
    have h := flat_one ms i
    rw [List.flatten_cons, List.length_append]
    show (ms.getD i []).length ≤ _
    omega
theorem fit_ini {w d : Int} {ms : List (List Mv)} (h : rightL w d ms = true) : Fit w.toNat d.toNat ms (ini w.toNat ms.length) := by
  obtain ⟨⟨hw, hd, hn⟩, h6, hm⟩ := right_iff h
  refine ⟨⟨by omega, by omega, fun i m hmi => ?_, fun i => Nat.le_trans (flat_one ms i) h6⟩, hn, ok_ini rfl⟩
  have h := hm m (flat_mem i m hmi)
  unfold mOk at h
  exact ⟨⟨h.1, h.2.1⟩, ⟨h.2.2.1, by omega⟩, ⟨h.2.2.2.2.1, h.2.2.2.2.2.1⟩⟩
end Go.Eng
namespace Go.Eng
open Go Go.Proofs
/-- From a state that has not ended something follows. -/
theorem progress {w d : Nat} {ms : List (List Mv)} {s : LS} (F : Fit w d ms s) (h : endL ms s = false) : ∃ t, t ∈ succL d ms s := by
  unfold endL at h
  rw [List.all_eq_false] at h
  obtain ⟨i, hi, h⟩ := h
  have hi := List.mem_range.1 hi
  have hl : i < s.2.length := by rw [F.o.tl]; exact hi
  have e := List.getElem?_eq_getElem hl
  generalize s.2[i] = t0 at e
  obtain ⟨b, nt, a⟩ := t0
  have hmade : a ≤ (ms.getD i []).length := (F.o.th i _ e).made
  unfold endI at h
  rw [e] at h
  cases b with
  | cons p b =>
    have hf : flushL s i = some (s.1.set p.1.toNat p.2, s.2.set i (b, nt, a)) := by unfold flushL; rw [e]
    exact ⟨_, succ_mem.2 ⟨i, hi, .inl hf⟩⟩
  | nil =>
    have ha : a ≠ (ms.getD i []).length := fun e => h (decide_eq_true ⟨rfl, e⟩)
    have hlt : a < (ms.getD i []).length := by omega
    obtain ⟨t, ht⟩ : ∃ t, moveL d ms s i = some t := by
      unfold moveL
      rw [e]
      show ∃ t, (match (ms.getD i [])[a]? with | some m => doL d s i [] nt a m | none => none) = some t
      rw [List.getElem?_eq_getElem hlt]
      show ∃ t, doL d s i [] nt a _ = some t
      unfold doL
      split
      · split
        · exact ⟨_, rfl⟩
        · rw [if_pos (by show 0 < d; omega)]; exact ⟨_, rfl⟩
      · split
        · exact ⟨_, rfl⟩
        · split
          · rw [if_pos rfl]; exact ⟨_, rfl⟩
          · rw [if_pos rfl]; exact ⟨_, rfl⟩
    exact ⟨t, succ_mem.2 ⟨i, hi, .inr ht⟩⟩
theorem fit_succ {w d : Nat} {ms : List (List Mv)} {s t : LS} (F : Fit w d ms s) (h : t ∈ succL d ms s) : Fit w d ms t := by
  obtain ⟨i, _, h⟩ := succ_mem.1 h
  rcases h with h | h
  · exact ⟨F.T, F.n, ok_flush F.o h⟩
  · exact ⟨F.T, F.n, ok_move F.T.moves F.o h⟩
theorem fit_rch {w d : Nat} {ms : List (List Mv)} {s t : LS} (F : Fit w d ms s) (h : Rch (succL d ms) s t) : Fit w d ms t := by
  induction h with
  | refl => exact F
  | step h1 _ ih => exact ih (fit_succ F h1)
theorem ends {w d : Nat} {ms : List (List Mv)} : ∀ (n : Nat) (s : LS), Fit w d ms s → muL ms s < n → ∃ t, Rch (succL d ms) s t ∧ endL ms t = true
  | 0, _, _, h => absurd h (Nat.not_lt_zero _)
  | n + 1, s, F, h => by
    cases e : endL ms s with
    | true => exact ⟨s, .refl _, e⟩
    | false =>
      obtain ⟨t, ht⟩ := progress F e
      obtain ⟨u, h1, h2⟩ := ends n t (fit_succ F ht) (by have := mu_succ s t ht; omega)
      exact ⟨u, .step ht h1, h2⟩
theorem mu_ini {w d : Int} {ms : List (List Mv)} (h : rightL w d ms = true) : muL ms (ini w.toNat ms.length) < 13 := by
  obtain ⟨⟨_, _, hn⟩, h6, _⟩ := right_iff h
  have hI : ∀ i, muI ms (ini w.toNat ms.length) i ≤ 2 * (ms.getD i []).length := fun i => by
    unfold muI
    split
    · rename_i b nt a e
      have := ini_thr e
      cases this
      exact Nat.le_refl _
    · exact Nat.zero_le _
  have hsum : ∀ k, ((List.range k).map (muI ms (ini w.toNat ms.length))).sum ≤ 2 * (ms.take k).flatten.length := fun k => by
    induction k with
    | zero => exact Nat.zero_le _
    | succ k ih =>
      rw [List.range_succ, List.map_append, List.sum_append]
      have h1 := hI k
      by_cases hk : k < ms.length
      · rw [flat_succ hk, List.length_append]
        show _ + (muI ms (ini w.toNat ms.length) k + 0) ≤ _
        have h1 : muI ms (ini w.toNat ms.length) k ≤ 2 * (ms.getD k default).length := h1
        omega
      · have e : (ms.getD k []).length = 0 := by
          rw [List.getD_eq_getElem?_getD, List.getElem?_eq_none (by omega)]; rfl
        rw [List.take_of_length_le (by omega)]
        rw [List.take_of_length_le (by omega)] at ih
        show _ + (muI ms (ini w.toNat ms.length) k + 0) ≤ _
        omega
  have := hsum ms.length
  rw [List.take_length] at this
  unfold muL
  omega
/-- What the search tells, from the first state. -/
def rawO (w d : Int) (ms : List (List Mv)) : List (List Int) := (D d.toNat ms 13 (ini w.toNat ms.length) ([], [])).2
theorem rawO_mem {w d : Int} {ms : List (List Mv)} (h : rightL w d ms = true) (r : List Int) : r ∈ rawO w d ms ↔ r ∈ outL d.toNat ms (ini w.toNat ms.length) := by
  rw [outL_mem]
  exact dfs_all (muL ms) (fun s t h => mu_succ s t h) 13 _ (mu_ini h) r
theorem bn13 : Bn 13 = 2612138803 := by decide +kernel
theorem rawO_len {w d : Int} {ms : List (List Mv)} (h : rightL w d ms = true) : (rawO w d ms).length ≤ 2612138803 := by
  have h1 := dfs_len (d := d.toNat) (right_iff h).1.2.2.2 13 (ini w.toNat ms.length) ([], [])
  rw [bn13] at h1
  have h1 : (rawO w d ms).length ≤ 0 + 2612138803 := h1
  omega
theorem rawO_pos {w d : Int} {ms : List (List Mv)} (h : rightL w d ms = true) : 0 < (rawO w d ms).length := by
  obtain ⟨t, h1, h2⟩ := ends _ _ (fit_ini h) (Nat.lt_succ_self _)
  have := (rawO_mem h (rowL t)).2 ((outL_mem _ _ _ _).2 ⟨t, h1, h2, rfl⟩)
  exact List.length_pos_of_mem this
theorem row_len {w d : Nat} {ms : List (List Mv)} {s : LS} (F : Fit w d ms s) : (rowL s).length ≤ 21 := by
  unfold rowL
  rw [List.length_append, F.o.wl]
  have hw := F.T.words
  have hn := F.n
  have hl := F.o.tl
  have key : ∀ l : List Thr, (∀ t ∈ l, t.2.1.length ≤ 6) → (l.flatMap fun t => t.2.1).length ≤ 6 * l.length := by
    intro l
    induction l with
    | nil => intro _; exact Nat.zero_le _
    | cons x l ih =>
      intro h
      rw [List.flatMap_cons, List.length_append, List.length_cons]
      have h1 := ih fun t ht => h t (by simp [ht])
      have h2 := h x (by simp)
      omega
  have h1 := key s.2 fun t ht => by
    obtain ⟨i, hi, e⟩ := List.getElem_of_mem ht
    have o := F.o.th i t (by rw [List.getElem?_eq_getElem hi, e])
    have h1 := o.few
    have h2 := o.made
    have h3 := F.T.few i
    omega
  omega
theorem rawO_rows {w d : Int} {ms : List (List Mv)} (h : rightL w d ms = true) : ∀ r ∈ rawO w d ms, r.length ≤ 21 := fun r hr => by
  obtain ⟨t, h1, _, rfl⟩ := (outL_mem _ _ _ _).1 ((rawO_mem h r).1 hr)
  exact row_len (fit_rch (fit_ini h) h1)
theorem rows5 {L : List (List Int)} (hl : L.length ≤ 5000000000) (h : ∀ r ∈ L, r.length ≤ 21) : Rows5 L := ⟨hl, fun i => by
  rw [List.getD_eq_getElem?_getD]
  cases e : L[i]? with
  | none => exact Nat.zero_le _
  | some r => exact Nat.le_trans (h r (List.mem_of_getElem? e)) (by decide)⟩
/-- All outcomes, in order, each once. -/
noncomputable def outF (w d : Int) (ms : List (List Mv)) : List (List Int) := if rightL w d ms = true then compact (sortL (rawO w d ms)) else []
theorem outF_mem {w d : Int} {ms : List (List Mv)} (h : rightL w d ms = true) (r : List Int) : r ∈ outF w d ms ↔ r ∈ outL d.toNat ms (ini w.toNat ms.length) := by
  unfold outF
  rw [if_pos h, compact_mem, (sortL_perm _).mem_iff, rawO_mem h]
theorem outF_sorted (w d : Int) (ms : List (List Mv)) : (outF w d ms).Pairwise ltL := by
  unfold outF
  split
  · exact compact_sorted _ (sortL_sorted _)
  · exact List.Pairwise.nil
theorem comp_len : ∀ l : List (List Int), (compact l).length ≤ l.length
  | [] => Nat.le_refl _
  | [_] => Nat.le_refl _
  | x :: y :: l => by
    unfold compact
    split
    · exact Nat.le_trans (comp_len (y :: l)) (Nat.le_succ _)
    · exact Nat.succ_le_succ (comp_len (y :: l))
theorem outF_rows (w d : Int) (ms : List (List Mv)) : (outF w d ms).length ≤ 2612138803 ∧ ∀ r ∈ outF w d ms, r.length ≤ 21 := by
  by_cases h : rightL w d ms = true
  · constructor
    · unfold outF
      rw [if_pos h]
      exact Nat.le_trans (comp_len _) (by rw [(sortL_perm _).length_eq]; exact rawO_len h)
    · intro r hr
      exact rawO_rows h r ((rawO_mem h r).2 ((outF_mem h r).1 hr))
  · unfold outF
    rw [if_neg h]
    exact ⟨by decide, by simp⟩
theorem outF_pos {w d : Int} {ms : List (List Mv)} (h : rightL w d ms = true) : 0 < (outF w d ms).length := by
  have h1 := rawO_pos h
  obtain ⟨r, hr⟩ := List.exists_mem_of_length_pos h1
  exact List.length_pos_of_mem ((outF_mem h r).2 ((rawO_mem h r).1 hr))
end Go.Eng
