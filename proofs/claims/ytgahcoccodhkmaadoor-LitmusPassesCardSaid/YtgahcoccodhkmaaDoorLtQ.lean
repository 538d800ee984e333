/- A part of the walks, and of the machine that proves them (LtQ). -/
import Derived.Test.YtgahcoccodhkmaaDoorLtH
import Derived.Test.YtgahcoccodhkmaaDoorLtPg
set_option linter.unusedVariables false
set_option linter.unusedSimpArgs false
namespace Go.Eng
open Go Go.Proofs
def encM (m : Int × Int × Int) : List Cell := [.i m.1, .i m.2.1, .i m.2.2]
abbrev rowE (l : List Int) : List Cell := [intsS l]
abbrev mvsE (l : List (Int × Int × Int)) : List Cell := [slC 3 encM l]
theorem flat_succ {α : Type} {L : List (List α)} {k : Nat} (h : k < L.length) : (L.take (k + 1)).flatten = (L.take k).flatten ++ L.getD k default := by
  rw [take_getD (d := default) h, List.flatten_append, List.flatten_cons, List.flatten_nil, List.append_nil]
theorem flat_le {α : Type} {L : List (List α)} (hb : ∀ i, (L.getD i default).length ≤ 1000) : ∀ k, (L.take k).flatten.length ≤ 1000 * k
  | 0 => Nat.zero_le _
  | k + 1 => by
    have h1 := flat_le hb k
    by_cases h : k < L.length
    · rw [flat_succ h, List.length_append]
      have := hb k
      omega
    · rw [List.take_of_length_le (by omega)]
      rw [List.take_of_length_le (by omega)] at h1
      omega
/-- One behind the other. -/
def sConcI : FSpec := spec (List (List Int)) (fun L => [.c (slC 1 rowE L)]) (fun L => L.length ≤ 100 ∧ ∀ i, (L.getD i default).length ≤ 1000) fun L => .c (slC 1 encI L.flatten)
set_option maxHeartbeats 4000000 in
set_option maxRecDepth 100000 in
theorem concI_ok : Meets Tryd.prog 21 sConcI := by
  refine meets_plain (gok_cons growI_ok (gok_nil _) : GOK Tryd.prog (tab [(47, sGrow 3 1)])) rfl [] (fn := Tryd.f21) rfl rfl rfl (by decide) fun L h => ?_
  obtain ⟨hL, hb⟩ : L.length ≤ 100 ∧ ∀ i, (L.getD i default).length ≤ 1000 := h
  have hs := flat_le hb
  have hsn := fun k => flat_succ (L := L) (k := k)
  repeat' (first | exact @id (emp _ = true) | (intro h; first | exact Bool.noConfusion h | (simp only [Qn] at h) | skip) | ((conv => whnf) <;> (first | exact trivial | apply Qa | apply And.intro | apply Qb | apply Qc | apply Qd | apply Qe | apply Qf | apply Qg | apply Qh | apply Qi | exact QA | exact QP | refine QG ?_ | apply Qj | apply Qk | apply Ql | apply Qm | apply Qo | apply Qp | apply Qw | apply Qv | apply Qu | apply Qt | apply Qs | apply Qr | apply Qq | apply Qx | apply wrapS | apply Qy | (with_reducible exact lenNil) | apply Eq.refl)) | ((with_reducible first | apply Y1 | apply Y2 | apply Y3 | show blkEq _ _ _); conv => whnf))
  apply LoopP.up (G := Nat × Unit) (fun k => k.1 ≤ L.length) [0, 3, 9, 10, 11] (fun k => [(3, .i ((L.take k.1).flatten.length : Int)), (11, .i k.1)]) (fun _ => []) 0 (fun k => L.length - k.1)
  apply And.intro
  · refine CutE.at (0, ()) ?_
    repeat' (first | exact @id (emp _ = true) | (intro h; first | exact Bool.noConfusion h | (simp only [Qn] at h) | skip) | ((conv => whnf) <;> (first | exact trivial | apply Qa | apply And.intro | apply Qb | apply Qc | apply Qd | apply Qe | apply Qf | apply Qg | apply Qh | apply Qi | exact QA | exact QP | refine QG ?_ | apply Qj | apply Qk | apply Ql | apply Qm | apply Qo | apply Qp | apply Qw | apply Qv | apply Qu | apply Qt | apply Qs | apply Qr | apply Qq | apply Qx | apply wrapS | apply Qy | (with_reducible exact lenNil) | apply Eq.refl)) | ((with_reducible first | apply Y1 | apply Y2 | apply Y3 | show blkEq _ _ _); conv => whnf))
    all_goals try simp only [Int.toNat_natCast, Int.toNat_zero, ge_iff_le, gt_iff_lt, Int.ofNat_le, Int.ofNat_lt, Int.ofNat_inj] at *
    all_goals first
      | omega
      | (dsimp only; omega)
      | assumption
      | exact Up.zero _
      | (show ((8 : Nat) : Int) * _ ≤ _; omega)
      | (show _ * (8 : Nat) ≤ _; omega)
      | (show _ * (16 : Nat) ≤ _; omega)
      | (show _ * (24 : Nat) ≤ _; omega)
      | trace_state
  rintro ⟨k, _⟩ hk
  have hk : k ≤ L.length := hk
  have h1 := hs k
  have h2 := hs (k + 1)
  have h5 := hb k
  have h4 : k < L.length → IntKind.i64.wrap (((L.take k).flatten.length : Int) + ((L.getD k default).length : Int)) = ((L.take (k + 1)).flatten.length : Int) := fun hlt => by
    rw [hsn k hlt, List.length_append, wrap_i64 ⟨by omega, by omega⟩] <;> omega
  repeat' (first | exact @id (emp _ = true) | (intro h; first | exact Bool.noConfusion h | (simp only [Qn] at h) | skip) | ((conv => whnf) <;> (first | exact trivial | apply Qa | apply And.intro | refine CutE.at (A := Nat × Unit) (k + 1, ()) ?_ | apply Qb | apply Qc | apply Qd | apply Qe | apply Qf | apply Qg | apply Qh | apply Qi | exact QA | exact QP | refine QG ?_ | apply Qj | apply Qk | apply Ql | apply Qm | apply Qo | apply Qp | apply Qw | apply Qv | apply Qu | apply Qt | apply Qs | apply Qr | apply Qq | apply Qx | apply wrapS | apply Qy | (with_reducible exact lenNil) | apply Eq.refl)) | ((with_reducible first | apply Y1 | apply Y2 | apply Y3 | show blkEq _ _ _); conv => whnf))
  all_goals try (fail_if_success (with_reducible show W _ _ _ _ _ _ _ _)); (fail_if_success (with_reducible show litK _ _ _ _)); simp only [Int.toNat_natCast] at *
  all_goals try first
    | omega
    | exact (h4 (by omega)).symm
    | (exfalso; rw [h4 (by omega)] at *; omega)
    | (show L.length - (k + 1) < L.length - k; omega)
    | (show k + 1 ≤ L.length; omega)
    | (show (L.take k).flatten.length ≤ 1000000; omega)
  all_goals try (exfalso; simp only [Int.toNat_natCast] at *; rw [h4 (by omega)] at *; omega)
  apply LoopP.up (G := Nat × Nat × Unit) (fun k => k.1 ≤ L.length) [6, 25, 26, 27] (fun k => [(6, .s (.c (.osl 0))), (27, .i k.1)]) (fun k => [(0, .slc 3 1 (L.take k.1).flatten.length (slG encI (L.take k.1).flatten))]) 1 (fun k => L.length - k.1)
  apply And.intro
  · refine CutE.at (0, 0, ()) ?_
    repeat' (first | exact @id (emp _ = true) | (intro h; first | exact Bool.noConfusion h | (simp only [Qn] at h) | skip) | ((conv => whnf) <;> (first | exact trivial | apply Qa | apply And.intro | apply Qb | apply Qc | apply Qd | apply Qe | apply Qf | apply Qg | apply Qh | apply Qi | exact QA | exact QP | refine QG ?_ | apply Qj | apply Qk | apply Ql | apply Qm | apply Qo | apply Qp | apply Qw | apply Qv | apply Qu | apply Qt | apply Qs | apply Qr | apply Qq | apply Qx | apply wrapS | apply Qy | (with_reducible exact lenNil) | apply Eq.refl)) | ((with_reducible first | apply Y1 | apply Y2 | apply Y3 | show blkEq _ _ _); conv => whnf))
    all_goals first
      | rfl
      | exact Nat.zero_le _
      | (rename_i i hi t; exact absurd hi (Nat.not_lt_zero _))
      | trace_state
  rintro ⟨m, _, _⟩ hm
  have hm : m ≤ L.length := hm
  have g1 := hs m
  have g2 := hs (m + 1)
  have g5 := hb m
  have g3 := hsn m
  repeat' (first | exact @id (emp _ = true) | (intro h; first | exact Bool.noConfusion h | (simp only [Qn] at h) | skip) | ((conv => whnf) <;> (first | exact trivial | apply Qa | apply And.intro | refine CutE.at (A := Nat × Nat × Unit) (m + 1, 0, ()) ?_ | apply Qb | apply Qc | apply Qd | apply Qe | apply Qf | apply Qg | apply Qh | apply Qi | exact QA | exact QP | refine QG ?_ | apply Qj | apply Qk | apply Ql | apply Qm | apply Qo | apply Qp | apply Qw | apply Qv | apply Qu | apply Qt | apply Qs | apply Qr | apply Qq | apply Qx | apply wrapS | apply Qy | (with_reducible exact lenNil) | apply Eq.refl)) | ((with_reducible first | apply Y1 | apply Y2 | apply Y3 | show blkEq _ _ _); conv => whnf))
  all_goals try simp only [Int.toNat_natCast] at *
  all_goals first
    | omega
    | (show ((L.take m).flatten.length + (L.getD m default).length) * 8 ≤ 140737488355328; omega)
    | (rw [g3 (by omega), List.length_append]; done)
    | (rw [g3 (by omega)]; exact (slG_append _ _).symm)
    | (rw [List.take_of_length_le (by omega)]; done)
    | (rw [List.take_of_length_le (by omega)] <;> rfl)
    | trace_state
/-- One behind the other. -/
def sConcM : FSpec := spec (List (List (Int × Int × Int))) (fun L => [.c (slC 1 mvsE L)]) (fun L => L.length ≤ 100 ∧ ∀ i, (L.getD i default).length ≤ 1000) fun L => .c (slC 3 encM L.flatten)
set_option maxHeartbeats 4000000 in
set_option maxRecDepth 100000 in
theorem concM_ok : Meets Tryd.prog 30 sConcM := by
  refine meets_plain (gok_cons growM_ok (gok_nil _) : GOK Tryd.prog (tab [(52, sGrow 28 3)])) rfl [] (fn := Tryd.f30) rfl rfl rfl (by decide) fun L h => ?_
  obtain ⟨hL, hb⟩ : L.length ≤ 100 ∧ ∀ i, (L.getD i default).length ≤ 1000 := h
  have hs := flat_le hb
  have hsn := fun k => flat_succ (L := L) (k := k)
  repeat' (first | exact @id (emp _ = true) | (intro h; first | exact Bool.noConfusion h | (simp only [Qn] at h) | skip) | ((conv => whnf) <;> (first | exact trivial | apply Qa | apply And.intro | apply Qb | apply Qc | apply Qd | apply Qe | apply Qf | apply Qg | apply Qh | apply Qi | exact QA | exact QP | refine QG ?_ | apply Qj | apply Qk | apply Ql | apply Qm | apply Qo | apply Qp | apply Qw | apply Qv | apply Qu | apply Qt | apply Qs | apply Qr | apply Qq | apply Qx | apply wrapS | apply Qy | (with_reducible exact lenNil) | apply Eq.refl)) | ((with_reducible first | apply Y1 | apply Y2 | apply Y3 | show blkEq _ _ _); conv => whnf))
  apply LoopP.up (G := Nat × Unit) (fun k => k.1 ≤ L.length) [0, 3, 9, 10, 11] (fun k => [(3, .i ((L.take k.1).flatten.length : Int)), (11, .i k.1)]) (fun _ => []) 0 (fun k => L.length - k.1)
  apply And.intro
  · refine CutE.at (0, ()) ?_
    repeat' (first | exact @id (emp _ = true) | (intro h; first | exact Bool.noConfusion h | (simp only [Qn] at h) | skip) | ((conv => whnf) <;> (first | exact trivial | apply Qa | apply And.intro | apply Qb | apply Qc | apply Qd | apply Qe | apply Qf | apply Qg | apply Qh | apply Qi | exact QA | exact QP | refine QG ?_ | apply Qj | apply Qk | apply Ql | apply Qm | apply Qo | apply Qp | apply Qw | apply Qv | apply Qu | apply Qt | apply Qs | apply Qr | apply Qq | apply Qx | apply wrapS | apply Qy | (with_reducible exact lenNil) | apply Eq.refl)) | ((with_reducible first | apply Y1 | apply Y2 | apply Y3 | show blkEq _ _ _); conv => whnf))
    all_goals try simp only [Int.toNat_natCast, Int.toNat_zero, ge_iff_le, gt_iff_lt, Int.ofNat_le, Int.ofNat_lt, Int.ofNat_inj] at *
    all_goals first
      | omega
      | (dsimp only; omega)
      | assumption
      | exact Up.zero _
      | (show ((8 : Nat) : Int) * _ ≤ _; omega)
      | (show _ * (8 : Nat) ≤ _; omega)
      | (show _ * (16 : Nat) ≤ _; omega)
      | (show _ * (24 : Nat) ≤ _; omega)
      | trace_state
  rintro ⟨k, _⟩ hk
  have hk : k ≤ L.length := hk
  have h1 := hs k
  have h2 := hs (k + 1)
  have h5 := hb k
  have h4 : k < L.length → IntKind.i64.wrap (((L.take k).flatten.length : Int) + ((L.getD k default).length : Int)) = ((L.take (k + 1)).flatten.length : Int) := fun hlt => by
    rw [hsn k hlt, List.length_append, wrap_i64 ⟨by omega, by omega⟩] <;> omega
  repeat' (first | exact @id (emp _ = true) | (intro h; first | exact Bool.noConfusion h | (simp only [Qn] at h) | skip) | ((conv => whnf) <;> (first | exact trivial | apply Qa | apply And.intro | refine CutE.at (A := Nat × Unit) (k + 1, ()) ?_ | apply Qb | apply Qc | apply Qd | apply Qe | apply Qf | apply Qg | apply Qh | apply Qi | exact QA | exact QP | refine QG ?_ | apply Qj | apply Qk | apply Ql | apply Qm | apply Qo | apply Qp | apply Qw | apply Qv | apply Qu | apply Qt | apply Qs | apply Qr | apply Qq | apply Qx | apply wrapS | apply Qy | (with_reducible exact lenNil) | apply Eq.refl)) | ((with_reducible first | apply Y1 | apply Y2 | apply Y3 | show blkEq _ _ _); conv => whnf))
  all_goals try (fail_if_success (with_reducible show W _ _ _ _ _ _ _ _)); (fail_if_success (with_reducible show litK _ _ _ _)); simp only [Int.toNat_natCast] at *
  all_goals try first
    | omega
    | exact (h4 (by omega)).symm
    | (exfalso; rw [h4 (by omega)] at *; omega)
    | (show L.length - (k + 1) < L.length - k; omega)
    | (show k + 1 ≤ L.length; omega)
    | (show (L.take k).flatten.length ≤ 1000000; omega)
  all_goals try (exfalso; simp only [Int.toNat_natCast] at *; rw [h4 (by omega)] at *; omega)
  apply LoopP.up (G := Nat × Nat × Unit) (fun k => k.1 ≤ L.length) [6, 25, 26, 27] (fun k => [(6, .s (.c (.osl 0))), (27, .i k.1)]) (fun k => [(0, .slc 28 3 (L.take k.1).flatten.length (slG encM (L.take k.1).flatten))]) 1 (fun k => L.length - k.1)
  apply And.intro
  · refine CutE.at (0, 0, ()) ?_
    repeat' (first | exact @id (emp _ = true) | (intro h; first | exact Bool.noConfusion h | (simp only [Qn] at h) | skip) | ((conv => whnf) <;> (first | exact trivial | apply Qa | apply And.intro | apply Qb | apply Qc | apply Qd | apply Qe | apply Qf | apply Qg | apply Qh | apply Qi | exact QA | exact QP | refine QG ?_ | apply Qj | apply Qk | apply Ql | apply Qm | apply Qo | apply Qp | apply Qw | apply Qv | apply Qu | apply Qt | apply Qs | apply Qr | apply Qq | apply Qx | apply wrapS | apply Qy | (with_reducible exact lenNil) | apply Eq.refl)) | ((with_reducible first | apply Y1 | apply Y2 | apply Y3 | show blkEq _ _ _); conv => whnf))
    all_goals first
      | rfl
      | exact Nat.zero_le _
      | (rename_i i hi t; exact absurd hi (Nat.not_lt_zero _))
      | trace_state
  rintro ⟨m, _, _⟩ hm
  have hm : m ≤ L.length := hm
  have g1 := hs m
  have g2 := hs (m + 1)
  have g5 := hb m
  have g3 := hsn m
  repeat' (first | exact @id (emp _ = true) | (intro h; first | exact Bool.noConfusion h | (simp only [Qn] at h) | skip) | ((conv => whnf) <;> (first | exact trivial | apply Qa | apply And.intro | refine CutE.at (A := Nat × Nat × Unit) (m + 1, 0, ()) ?_ | apply Qb | apply Qc | apply Qd | apply Qe | apply Qf | apply Qg | apply Qh | apply Qi | exact QA | exact QP | refine QG ?_ | apply Qj | apply Qk | apply Ql | apply Qm | apply Qo | apply Qp | apply Qw | apply Qv | apply Qu | apply Qt | apply Qs | apply Qr | apply Qq | apply Qx | apply wrapS | apply Qy | (with_reducible exact lenNil) | apply Eq.refl)) | ((with_reducible first | apply Y1 | apply Y2 | apply Y3 | show blkEq _ _ _); conv => whnf))
  all_goals try simp only [Int.toNat_natCast] at *
  all_goals first
    | omega
    | (show ((L.take m).flatten.length + (L.getD m default).length) * 24 ≤ 140737488355328; omega)
    | (rw [g3 (by omega), List.length_append]; done)
    | (rw [g3 (by omega)]; exact (slG_append _ _).symm)
    | (rw [List.take_of_length_le (by omega)]; done)
    | (rw [List.take_of_length_le (by omega)] <;> rfl)
    | trace_state
end Go.Eng
namespace Go.Eng
open Go Go.Proofs
def atI (s : LS) (j : Nat) : Nat := (s.2.getD j ([], [], 0)).2.2
def ntI (s : LS) (j : Nat) : List Int := (s.2.getD j ([], [], 0)).2.1
/-- The cells' parts are a state's. -/
structure RawOf (w d : Nat) (s : LS) (ws ts : List Int) (dd : Int) (l : List (List Put)) (a0 a1 a2 : Nat) (n0 n1 n2 : List Int) : Prop where
  ws : ws = s.1
  ts : ts = List.replicate w 1
  dd : dd = d
  l : l = s.2.map (·.1)
  a0 : a0 = atI s 0
  a1 : a1 = atI s 1
  a2 : a2 = atI s 2
  n0 : n0 = ntI s 0
  n1 : n1 = ntI s 1
  n2 : n2 = ntI s 2
/-- A test and a state of it that may be. -/
structure Fit (w d : Nat) (ms : List (List Mv)) (s : LS) : Prop where
  T : TestOk w d ms
  n : 1 ≤ ms.length ∧ ms.length ≤ 3
  o : OkS w d ms s
theorem rep1 {w i : Nat} (h : i < w) : (List.replicate w (1 : Int)).getD i default = 1 := by
  rw [List.getD_eq_getElem?_getD, List.getElem?_replicate, if_pos h]; rfl
theorem memR1 {w : Nat} {ws : List Int} (hw : 1 ≤ w ∧ w ≤ 3) (h : ws.length = w) : memR ws (List.replicate w 1) = true := by
  refine memR_iff.2 ⟨by omega, by omega, by rw [List.length_replicate, h], fun i hi => ?_⟩
  rw [List.length_replicate] at hi
  rw [rep1 hi]
  exact okT_true.2 (.inr (.inl rfl))
theorem use1 {w : Nat} {ws : List Int} (hw : 1 ≤ w ∧ w ≤ 3) (h : ws.length = w) {a : Int} (ha : 0 ≤ a ∧ a < w) : useF ws (List.replicate w 1) a = 0 :=
  useF_ok.2 ⟨memR1 hw h, ha.1, by omega, rep1 (by omega)⟩
theorem store1 {w : Nat} {ws : List Int} (hw : 1 ≤ w ∧ w ≤ 3) (h : ws.length = w) {a : Int} (ha : 0 ≤ a ∧ a < w) (v : Int) : storeF ws (List.replicate w 1) a v = ((ws.set a.toNat v, List.replicate w 1), 0) := by
  rw [storeF, if_pos (use1 hw h ha)]
theorem load1 {w : Nat} {ws : List Int} (hw : 1 ≤ w ∧ w ≤ 3) (h : ws.length = w) {a : Int} (ha : 0 ≤ a ∧ a < w) : loadF ws (List.replicate w 1) a = (ws.getD a.toNat 0, 0) := by
  rw [loadF, if_pos (use1 hw h ha)]; rfl
theorem buf_at {s : LS} {i : Nat} {t : Thr} (h : s.2[i]? = some t) : (s.2.map (·.1)).getD i default = t.1 := by
  rw [List.getD_eq_getElem?_getD, List.getElem?_map, h]; rfl
theorem okB1 {w d : Nat} {l : List Mv} {t : Thr} (h : OkTh w d l t) : okB w d t.1 = true := by
  unfold okB
  rw [decide_eq_true (by have := h.wait; omega), Bool.true_and, Bool.not_eq_true', List.any_eq_false]
  intro p hp
  have := (h.puts p hp).place
  unfold badP
  rw [decide_eq_true_eq]
  omega
theorem hasF1 {w d : Nat} {ms : List (List Mv)} {s : LS} (F : Fit w d ms s) {i : Nat} (hi : i < ms.length) : hasF s.1 (List.replicate w 1) d (s.2.map (·.1)) i = true := by
  have hl : (s.2.map (fun t : Thr => t.1)).length = ms.length := by rw [List.length_map, F.o.tl]
  refine hasF_iff.2 ⟨tsoR_iff.2 ⟨memR1 F.T.words F.o.wl, sizesF_iff.2 ?_, fun j hj => ?_⟩, by omega, by rw [hl]; omega⟩
  · rw [hl]
    have := F.n
    have := F.T.depth
    omega
  · rw [hl] at hj
    have hj2 : j < s.2.length := by rw [F.o.tl]; exact hj
    have e := List.getElem?_eq_getElem hj2
    rw [buf_at e, F.o.wl]
    exact okB1 (F.o.th j _ e)
theorem at_set {s : LS} {ws : List Int} {i j : Nat} {t : Thr} (hi : i < s.2.length) : atI (ws, s.2.set i t) j = if i = j then t.2.2 else atI s j := by
  unfold atI
  rw [List.getD_eq_getElem?_getD, List.getD_eq_getElem?_getD]
  show (((s.2.set i t)[j]?).getD ([], [], 0)).2.2 = _
  rw [List.getElem?_set]
  split
  · rename_i e
    subst e
    rfl
  · rfl
theorem nt_set {s : LS} {ws : List Int} {i j : Nat} {t : Thr} (hi : i < s.2.length) : ntI (ws, s.2.set i t) j = if i = j then t.2.1 else ntI s j := by
  unfold ntI
  rw [List.getD_eq_getElem?_getD, List.getD_eq_getElem?_getD]
  show (((s.2.set i t)[j]?).getD ([], [], 0)).2.1 = _
  rw [List.getElem?_set]
  split
  · rename_i e
    subst e
    rfl
  · rfl
theorem at_is {s : LS} {i : Nat} {t : Thr} (h : s.2[i]? = some t) : atI s i = t.2.2 := by
  unfold atI
  rw [List.getD_eq_getElem?_getD, h]; rfl
theorem nt_is {s : LS} {i : Nat} {t : Thr} (h : s.2[i]? = some t) : ntI s i = t.2.1 := by
  unfold ntI
  rw [List.getD_eq_getElem?_getD, h]; rfl
theorem keep_at {s : LS} {ws : List Int} {i : Nat} {b : List Put} {nt : List Int} {a : Nat} {b' : List Put} (h : s.2[i]? = some (b, nt, a)) (j : Nat) : atI (ws, s.2.set i (b', nt, a)) j = atI s j := by
  rw [at_set (List.getElem?_eq_some_iff.1 h).1]
  split
  · rename_i e; subst e; rw [at_is h]
  · rfl
theorem keep_nt {s : LS} {ws : List Int} {i : Nat} {b : List Put} {nt : List Int} {a a' : Nat} {b' : List Put} (h : s.2[i]? = some (b, nt, a)) (j : Nat) : ntI (ws, s.2.set i (b', nt, a')) j = ntI s j := by
  rw [nt_set (List.getElem?_eq_some_iff.1 h).1]
  split
  · rename_i e; subst e; rw [nt_is h]
  · rfl
theorem up_at {s : LS} {ws : List Int} {i : Nat} {b : List Put} {nt nt' : List Int} {a : Nat} {b' : List Put} (h : s.2[i]? = some (b, nt, a)) (j : Nat) : atU i j (atI s j) = atI (ws, s.2.set i (b', nt', a + 1)) j := by
  rw [at_set (List.getElem?_eq_some_iff.1 h).1]
  unfold atU
  by_cases e : i = j
  · subst e; rw [Nat.beq_refl, if_pos rfl, at_is h]
  · rw [if_neg e, beq_false_of_ne e]
theorem up_nt {s : LS} {ws : List Int} {i : Nat} {b : List Put} {nt : List Int} {a a' : Nat} {b' : List Put} {v : Int} (h : s.2[i]? = some (b, nt, a)) (j : Nat) : ntU i j (ntI s j) v = ntI (ws, s.2.set i (b', nt ++ [v], a')) j := by
  rw [nt_set (List.getElem?_eq_some_iff.1 h).1]
  unfold ntU
  by_cases e : i = j
  · subst e; rw [Nat.beq_refl, if_pos rfl, nt_is h]
  · rw [if_neg e, beq_false_of_ne e]
theorem map_set1 {s : LS} {i : Nat} {t : Thr} : (s.2.map (fun t : Thr => t.1)).set i t.1 = (s.2.set i t).map (fun t : Thr => t.1) := by rw [List.map_set]
theorem map_keep {s : LS} {i : Nat} {b : List Put} {nt nt' : List Int} {a a' : Nat} (h : s.2[i]? = some (b, nt, a)) : s.2.map (fun t : Thr => t.1) = (s.2.set i (b, nt', a')).map (fun t : Thr => t.1) := by
  rw [List.map_set]
  refine (List.ext_getElem? fun j => ?_).symm
  rw [List.getElem?_set]
  split
  · rename_i e
    subst e
    have hl := (List.getElem?_eq_some_iff.1 h).1
    rw [if_pos (by rw [List.length_map]; exact hl), List.getElem?_map, h]; rfl
  · rfl
/-- What the program makes of a flush. -/
theorem flush_raw {w d : Nat} {ms : List (List Mv)} {s s' : LS} (F : Fit w d ms s) {i : Nat} (hi : i < ms.length) (h : flushL s i = some s') :
    (flushT (s.1, List.replicate w 1, (d : Int), s.2.map (·.1)) i) = ((s'.1, List.replicate w 1, (d : Int), s'.2.map (·.1)), 0) ∧ (∀ j, atI s' j = atI s j) ∧ ∀ j, ntI s' j = ntI s j := by
  unfold flushL at h
  split at h
  case h_2 => cases h
  rename_i p b nt a e
  cases h
  have hp := ((F.o.th i _ e).puts p (by simp)).place
  refine ⟨?_, keep_at e, keep_nt e⟩
  unfold flushT
  have hh := hasF1 F hi
  simp only [hh, ↓reduceIte, Int.toNat_natCast, buf_at e]
  show (if (p :: b).length = 0 then _ else if (storeF s.1 (List.replicate w 1) p.1 p.2).2 = 0 then _ else _) = _
  have hst := store1 F.T.words F.o.wl hp p.2
  have e0 : (p :: b).getD 0 default = p := rfl
  rw [if_neg (by simp), e0, hst, if_pos rfl, ← map_set1]
  rfl
theorem flush_no {w d : Nat} {ms : List (List Mv)} {s : LS} (F : Fit w d ms s) {i : Nat} (hi : i < ms.length) (h : flushL s i = none) :
    (flushT (s.1, List.replicate w 1, (d : Int), s.2.map (·.1)) i).2 = 8 := by
  have hl : i < s.2.length := by rw [F.o.tl]; exact hi
  have e := List.getElem?_eq_getElem hl
  unfold flushL at h
  rw [e] at h
  generalize s.2[i] = t0 at h e
  obtain ⟨b, nt, a⟩ := t0
  cases b with
  | cons p b => cases h
  | nil =>
    unfold flushT
    simp only [hasF1 F hi, ↓reduceIte, Int.toNat_natCast, buf_at e]
    rfl
theorem newest_read (ws : List Int) (a : Int) : ∀ b : List Put, (if (newestF b a).2 = true then (newestF b a).1 else ws.getD a.toNat 0) = readL ws b a := by
  intro b
  have key : ∀ b : List Put, newestF b a = match b.reverse.find? (fun p => decide (p.1 = a)) with
    | some p => (p.2, true)
    | none => (0, false) := by
    intro b
    induction b with
    | nil => rfl
    | cons p b ih =>
      rw [newest_cons, ih, List.reverse_cons, List.find?_append]
      cases h : b.reverse.find? (fun p => decide (p.1 = a)) with
      | some q => rfl
      | none =>
        show (if p.1 = a then (p.2, true) else (0, false)) = match List.find? (fun p => decide (p.1 = a)) [p] with
          | some p => (p.2, true)
          | none => (0, false)
        by_cases e : p.1 = a
        · rw [if_pos e, List.find?_cons_of_pos (by simpa using e)]
        · rw [if_neg e, List.find?_cons_of_neg (by simpa using e)]
          rfl
  rw [key b]
  unfold readL
  cases b.reverse.find? (fun p => decide (p.1 = a)) <;> rfl
/-- What the program makes of a move. -/
theorem move_raw {w d : Nat} {ms : List (List Mv)} {s : LS} (F : Fit w d ms s) {i : Nat} (hi : i < ms.length) {m : Mv} (hm : (ms.getD i [])[atI s i]? = some m) :
    match moveL d ms s i with
    | some s' => (moveT (s.1, List.replicate w 1, (d : Int), s.2.map (·.1)) i m.1 m.2.1 m.2.2).1 = (s'.1, List.replicate w 1, (d : Int), s'.2.map (·.1)) ∧ (moveT (s.1, List.replicate w 1, (d : Int), s.2.map (·.1)) i m.1 m.2.1 m.2.2).2.2 = true ∧
        (∀ j, atU i j (atI s j) = atI s' j) ∧ ∀ j, ntO i j (ntI s j) (moveT (s.1, List.replicate w 1, (d : Int), s.2.map (·.1)) i m.1 m.2.1 m.2.2).2.1 = ntI s' j
    | none => (moveT (s.1, List.replicate w 1, (d : Int), s.2.map (·.1)) i m.1 m.2.1 m.2.2).2.2 = false := by
  have hl : i < s.2.length := by rw [F.o.tl]; exact hi
  have e := List.getElem?_eq_getElem hl
  generalize s.2[i] = t0 at e
  obtain ⟨b, nt, a⟩ := t0
  rw [at_is e] at hm
  have hm : (ms.getD i [])[a]? = some m := hm
  have hmv : moveL d ms s i = doL d s i b nt a m := by
    unfold moveL
    rw [e]
    show (match (ms.getD i [])[a]? with | some m => doL d s i b nt a m | none => none) = _
    rw [hm]
  have mo := F.T.moves i m (List.mem_of_getElem? hm)
  have hh := hasF1 F hi
  have hk := mo.kind
  have hp := mo.place
  have hw := F.T.words
  have hwl := F.o.wl
  have hb : (s.2.map (fun t : Thr => t.1)).getD i default = b := buf_at e
  have hbt := (F.o.th i _ e).wait
  have hbt : b.length ≤ d := hbt
  have hd3 := F.T.depth
  rw [hmv]
  obtain ⟨k, at', v⟩ := m
  have hk : 0 ≤ k ∧ k ≤ 3 := hk
  have hp : 0 ≤ at' ∧ at' < (w : Int) := hp
  unfold doL moveT
  simp only
  by_cases h0 : k = 0
  · rw [if_pos h0, if_pos h0]
    simp only [storeT, hh, ↓reduceIte, store1 hw hwl hp, Int.toNat_natCast, hb]
    by_cases hd : d = 0
    · subst hd
      have hb0 : b = [] := List.length_eq_zero_iff.1 (by omega)
      simp only [↓reduceIte, Int.natCast_eq_zero]
      refine ⟨?_, rfl, fun j => up_at e j, fun j => (keep_nt e j).symm⟩
      rw [← map_keep e]
    · have hd' : ¬ (d : Int) = 0 := by omega
      rw [if_neg hd]
      simp only [hd', if_false]
      by_cases hlt : b.length < d
      · have hpu : pushF b d (at', v) = (b ++ [(at', v)], 0) := by rw [push_here (by omega) (by omega), if_neg (by omega)]
        rw [if_pos hlt, hpu]
        simp only [↓reduceIte]
        refine ⟨?_, rfl, fun j => up_at e j, fun j => (keep_nt e j).symm⟩
        rw [← map_set1]
      · have hpu : pushF b d (at', v) = ([], 7) := by rw [push_here (by omega) (by omega), if_pos (by omega)]
        rw [if_neg hlt, hpu]
        rfl
  · rw [if_neg h0, if_neg h0]
    by_cases h1 : k = 1
    · rw [if_pos h1, if_pos h1]
      simp only [loadT, hh, ↓reduceIte, load1 hw hwl hp, Int.toNat_natCast, hb]
      refine ⟨?_, rfl, fun j => up_at e j, fun j => ?_⟩
      · rw [← map_keep e]
      · show ntU i j (ntI s j) (if (newestF b at').2 = true then (newestF b at').1 else s.1.getD at'.toNat 0) = _
        rw [newest_read]
        exact up_nt e j
    · rw [if_neg h1, if_neg h1]
      by_cases h2 : k = 2
      · rw [if_pos h2, if_pos h2]
        simp only [hb]
        by_cases hb0 : b = []
        · subst hb0
          rw [if_pos rfl]
          refine ⟨?_, rfl, fun j => up_at e j, fun j => (keep_nt e j).symm⟩
          rw [← map_keep e]
        · rw [if_neg hb0]
          have : ¬ (b.length : Int) = 0 := fun h => hb0 (List.length_eq_zero_iff.1 (by omega))
          show ((b.length : Int) == 0) = false
          exact beq_eq_false_iff_ne.2 this
      · rw [if_neg h2, if_neg h2]
        have hhk : hasF s.1 (List.replicate w 1) (d : Int) (s.2.map (fun t : Thr => t.1)) i = true ∧ (0 : Int) ≤ 1 ∧ (1 : Int) < 3 := ⟨hh, by decide, by decide⟩
        simp only [lockT, hhk, and_self, ↓reduceIte, Int.toNat_natCast, hb, load1 hw hwl hp]
        by_cases hb0 : b = []
        · subst hb0
          rw [if_pos rfl]
          have hbc : ∀ x : Int, becF 1 x v 0 = v := fun _ => rfl
          simp only [List.length_nil, Nat.lt_irrefl, ↓reduceIte, hbc, store1 hw hwl hp]
          refine ⟨?_, rfl, fun j => up_at e j, fun j => ?_⟩
          · rw [← map_keep e]
          · exact up_nt e j
        · rw [if_neg hb0]
          have : 0 < b.length := List.length_pos_iff.2 hb0
          simp only [this, if_true]
          rfl
end Go.Eng
