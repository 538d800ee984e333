/- LitmusOrder, walked. -/
import Derived.Test.YtgahcoccodhkmaaDoorLtOr
set_option linter.unusedVariables false
set_option linter.unusedSimpArgs false
namespace Go.Eng
open Go Go.Proofs
theorem two_lit {q : Nat} {a b : List Mv} (hq : q = 1) (i : Nat) (hi : i < 2) (t : Nat) (ht : t < 1) : slG mvsE [a, b] i t = litG q [slC 3 encM a, slC 3 encM b] i t := by
  subst hq
  obtain rfl : t = 0 := by omega
  match i, hi with
  | 0, _ => rfl
  | 1, _ => rfl
theorem short_two {a b : List Mv} (ha : a.length ≤ 8) (hb : b.length ≤ 8) : Short [a, b] := fun i => by
  match i with
  | 0 => show a.length ≤ 1000; omega
  | 1 => show b.length ≤ 1000; omega
  | i + 2 => exact Nat.zero_le _
noncomputable def sOrder : FSpec := spec (Int × Int × List Mv × List Mv) (fun (w, d, a, b) => [.i w, .i d, .c (slC 3 encM a), .c (slC 3 encM b)]) (fun _ => True) fun _ => .b true
set_option maxHeartbeats 1000000 in
set_option maxRecDepth 100000 in
theorem order_ok : Meets Tryd.prog 4 sOrder := by
  refine meets_plain KL_ok rfl [2, 5, 6, 15, 27] (fn := Tryd.f4) rfl rfl rfl (by decide) fun ⟨w, d, a0, b0⟩ _ => ?_
  obtain ⟨a, ha⟩ : ∃ a, a = a0.take 8 := ⟨_, rfl⟩
  obtain ⟨b, hb⟩ : ∃ b, b = b0.take 8 := ⟨_, rfl⟩
  have ha8 : a.length ≤ 8 := by rw [ha]; exact List.length_take_le _ _
  have hb8 : b.length ≤ 8 := by rw [hb]; exact List.length_take_le _ _
  (conv => whnf)
  apply CutP.to (G := Unit) (fun _ => True) [0, 1, 2, 3] (fun _ => [(0, .i w), (1, .i d), (2, .s (.c (slC 3 encM a))), (3, .s (.c (slC 3 encM b)))]) (fun _ => []) 0
  apply And.intro
  · subst ha hb
    repeat' (first | exact @id (emp _ = true) | (intro h; first | exact Bool.noConfusion h | (simp only [Qn] at h) | skip) | ((conv => whnf) <;> (first | exact trivial | apply Qa | apply And.intro | apply Qb | apply Qc | apply Qd | apply Qe | apply Qf | apply Qg | apply Qh | apply Qi | exact QA | exact QP | refine QG ?_ | apply Qj | apply Qk | apply Ql | apply Qm | apply Qo | apply Qp | apply Qw | apply Qv | apply Qu | apply Qt | apply Qs | apply Qr | apply Qq | apply Qx | apply wrapS | apply Qy | (with_reducible exact lenNil) | apply Eq.refl)) | ((with_reducible first | apply Y1 | apply Y2 | apply Y3 | show blkEq _ _ _); conv => whnf))
    all_goals first
      | exact Int.le_refl _
      | exact take_lo (m := 8)
      | exact take_hi (m := 8)
      | exact take_len (m := 8)
      | (apply take_cell (m := 8); assumption)
      | trace_state
  rintro ⟨⟩ _
  obtain ⟨L, hL⟩ : ∃ L, L = outF w d [a, b] := ⟨_, rfl⟩
  obtain ⟨E, hE⟩ : ∃ E, E = errF w d [a, b] := ⟨_, rfl⟩
  obtain ⟨M, hM⟩ : ∃ M, M = outF w d [b, a] := ⟨_, rfl⟩
  obtain ⟨F, hF⟩ : ∃ F, F = errF w d [b, a] := ⟨_, rfl⟩
  have hrL := outF_rows5 w d [a, b]
  have hrM := outF_rows5 w d [b, a]
  have hbad := @order_bad w d a b
  have hgood := @order_in w d a b
  rw [← hL] at hrL
  rw [← hM] at hrM
  rw [← hL, ← hM, ← hE, ← hF] at hbad hgood
  (conv => whnf)
  repeat' (first | exact @id (emp _ = true) | (intro h; first | exact Bool.noConfusion h | (simp only [Qn] at h) | skip) | ((conv => whnf) <;> (first | exact trivial | apply Qa | apply And.intro | apply Qb | apply Qc | apply Qd | apply Qe | apply Qf | apply Qg | apply Qh | apply Qi | exact QA | exact QP | refine QG ?_ | apply Qj | apply Qk | apply Ql | apply Qm | apply Qo | apply Qp | apply Qw | apply Qv | apply Qu | apply Qt | apply Qs | apply Qr | apply Qq | apply Qx | apply wrapS | apply Qy | (with_reducible exact lenNil) | apply Eq.refl)) | ((with_reducible first | apply Y1 | apply Y2 | apply Y3 | show blkEq _ _ _); conv => whnf))
  (conv => whnf)
  apply CutP.to (G := Unit) (fun _ => True) [0, 2, 10, 11, 12] (fun _ => [(0, .i w), (2, .s (.c (slC 3 encM a))), (10, .s (.c (.ptr 0 0))), (11, .s (.c (slC 1 rowE L))), (12, .i E)])
    (fun _ => [(0, .row 24 [.i w, .i d, .osl 1]), (1, .slc 26 1 2 (slG mvsE [b, a]))]) 2
  apply And.intro
  · subst hL hE
    repeat' (first | exact @id (emp _ = true) | (intro h; first | exact Bool.noConfusion h | (simp only [Qn] at h) | skip) | ((conv => whnf) <;> (first | exact trivial | apply Qa | apply And.intro | refine CutE.at (A := Int × Int × List (List Mv)) (w, d, [a, b]) ?_ | apply Qb | apply Qc | apply Qd | apply Qe | apply Qf | apply Qg | apply Qh | apply Qi | exact QA | exact QP | refine QG ?_ | apply Qj | apply Qk | apply Ql | apply Qm | apply Qo | apply Qp | apply Qw | apply Qv | apply Qu | apply Qt | apply Qs | apply Qr | apply Qq | apply Qx | apply wrapS | apply Qy | (with_reducible exact lenNil) | apply Eq.refl)) | ((with_reducible first | apply Y1 | apply Y2 | apply Y3 | show blkEq _ _ _); conv => whnf))
    all_goals first
      | exact short_two ha8 hb8 _
      | exact two_lit rfl _ (by assumption) _ (by assumption)
      | exact (two_lit rfl _ (by assumption) _ (by assumption)).symm
      | trace_state
  rintro ⟨⟩ _
  (conv => whnf)
  apply CutP.to (G := Unit) (fun _ => True) [0, 2, 11, 12, 13, 14] (fun _ => [(0, .i w), (2, .s (.c (slC 3 encM a))), (11, .s (.c (slC 1 rowE L))), (12, .i E), (13, .s (.c (slC 1 rowE M))), (14, .i F)])
    (fun _ => []) 0
  apply And.intro
  · subst hM hF
    repeat' (first | exact @id (emp _ = true) | (intro h; first | exact Bool.noConfusion h | (simp only [Qn] at h) | skip) | ((conv => whnf) <;> (first | exact trivial | apply Qa | apply And.intro | refine CutE.at (A := Int × Int × List (List Mv)) (w, d, [b, a]) ?_ | apply Qb | apply Qc | apply Qd | apply Qe | apply Qf | apply Qg | apply Qh | apply Qi | exact QA | exact QP | refine QG ?_ | apply Qj | apply Qk | apply Ql | apply Qm | apply Qo | apply Qp | apply Qw | apply Qv | apply Qu | apply Qt | apply Qs | apply Qr | apply Qq | apply Qx | apply wrapS | apply Qy | (with_reducible exact lenNil) | apply Eq.refl)) | ((with_reducible first | apply Y1 | apply Y2 | apply Y3 | show blkEq _ _ _); conv => whnf))
    all_goals first
      | exact short_two hb8 ha8 _
      | trace_state
  rintro ⟨⟩ _
  (conv => whnf)
  repeat' (first | exact @id (emp _ = true) | (intro h; first | exact Bool.noConfusion h | (simp only [Qn] at h) | skip) | ((conv => whnf) <;> (first | exact trivial | apply Qa | apply And.intro | apply Qb | apply Qc | apply Qd | apply Qe | apply Qf | apply Qg | apply Qh | apply Qi | exact QA | exact QP | refine QG ?_ | apply Qj | apply Qk | apply Ql | apply Qm | apply Qo | apply Qp | apply Qw | apply Qv | apply Qu | apply Qt | apply Qs | apply Qr | apply Qq | apply Qx | apply wrapS | apply Qy | (with_reducible exact lenNil) | apply Eq.refl)) | ((with_reducible first | apply Y1 | apply Y2 | apply Y3 | show blkEq _ _ _); conv => whnf))
  all_goals try first
    | (have h := hbad (by assumption); rw [h.2.2]; rfl)
    | (have h := hbad (by assumption); exact absurd (congrArg (fun l : List (List Int) => (l.length : Int)) h.2.1) (by assumption))
    | (have h := hbad (by assumption); exact absurd h.1 (by assumption))
  have hE0 : E = 0 := by assumption
  obtain ⟨hF0, hpos, hlen, hw, hall⟩ := hgood hE0
  (conv => whnf)
  apply CutP.to (G := Unit) (fun _ => True) [0, 11, 13, 14, 15] (fun _ => [(0, .i w), (11, .s (.c (slC 1 rowE L))), (13, .s (.c (slC 1 rowE M))), (14, .i F), (15, .i (cntT a))])
    (fun _ => []) 0
  apply And.intro
  · repeat' (first | exact @id (emp _ = true) | (intro h; first | exact Bool.noConfusion h | (simp only [Qn] at h) | skip) | ((conv => whnf) <;> (first | exact trivial | apply Qa | apply And.intro | apply Qb | apply Qc | apply Qd | apply Qe | apply Qf | apply Qg | apply Qh | apply Qi | exact QA | exact QP | refine QG ?_ | apply Qj | apply Qk | apply Ql | apply Qm | apply Qo | apply Qp | apply Qw | apply Qv | apply Qu | apply Qt | apply Qs | apply Qr | apply Qq | apply Qx | apply wrapS | apply Qy | (with_reducible exact lenNil) | apply Eq.refl)) | ((with_reducible first | apply Y1 | apply Y2 | apply Y3 | show blkEq _ _ _); conv => whnf))
    apply LoopP.to (G := Nat) (fun k => k ≤ a.length) [0, 11, 13, 14, 15, 71, 72, 73] (fun k => [(0, .i w), (11, .s (.c (slC 1 rowE L))), (13, .s (.c (slC 1 rowE M))), (14, .i F), (15, .i (cntT (a.take k))), (71, .s (.c (slC 3 encM a))), (72, .s (.c (.i a.length))), (73, .i k)])
      (fun _ => []) 0 (fun k => a.length - k)
    apply And.intro
    · refine CutE.at 0 ?_
      repeat' (first | exact @id (emp _ = true) | (intro h; first | exact Bool.noConfusion h | (simp only [Qn] at h) | skip) | ((conv => whnf) <;> (first | exact trivial | apply Qa | apply And.intro | apply Qb | apply Qc | apply Qd | apply Qe | apply Qf | apply Qg | apply Qh | apply Qi | exact QA | exact QP | refine QG ?_ | apply Qj | apply Qk | apply Ql | apply Qm | apply Qo | apply Qp | apply Qw | apply Qv | apply Qu | apply Qt | apply Qs | apply Qr | apply Qq | apply Qx | apply wrapS | apply Qy | (with_reducible exact lenNil) | apply Eq.refl)) | ((with_reducible first | apply Y1 | apply Y2 | apply Y3 | show blkEq _ _ _); conv => whnf))
      all_goals exact Nat.zero_le _
    intro k hk
    repeat' (first | exact @id (emp _ = true) | (intro h; first | exact Bool.noConfusion h | (simp only [Qn] at h) | skip) | ((conv => whnf) <;> (first | exact trivial | apply Qa | apply And.intro | refine CutE.at (A := Nat) (k + 1) ?_ | apply Qb | apply Qc | apply Qd | apply Qe | apply Qf | apply Qg | apply Qh | apply Qi | exact QA | exact QP | refine QG ?_ | apply Qj | apply Qk | apply Ql | apply Qm | apply Qo | apply Qp | apply Qw | apply Qv | apply Qu | apply Qt | apply Qs | apply Qr | apply Qq | apply Qx | apply wrapS | apply Qy | (with_reducible exact lenNil) | apply Eq.refl)) | ((with_reducible first | apply Y1 | apply Y2 | apply Y3 | show blkEq _ _ _); conv => whnf))
    all_goals try simp only [Int.toNat_natCast] at *
    all_goals first
      | omega
      | (show a.length - (k + 1) < a.length - k; omega)
      | (show k + 1 ≤ a.length; omega)
      | exact cnt_one ha8 (by omega) (tell1 (by assumption))
      | exact cnt_one ha8 (by omega) (tell3 (by assumption))
      | exact cnt_none (by omega) (tell0 (by assumption) (by assumption))
      | rw [List.take_of_length_le (by omega)]
      | trace_state
  rintro ⟨⟩ _
  (conv => whnf)
  repeat' (first | exact @id (emp _ = true) | (intro h; first | exact Bool.noConfusion h | (simp only [Qn] at h) | skip) | ((conv => whnf) <;> (first | exact trivial | apply Qa | apply And.intro | apply Qb | apply Qc | apply Qd | apply Qe | apply Qf | apply Qg | apply Qh | apply Qi | exact QA | exact QP | refine QG ?_ | apply Qj | apply Qk | apply Ql | apply Qm | apply Qo | apply Qp | apply Qw | apply Qv | apply Qu | apply Qt | apply Qs | apply Qr | apply Qq | apply Qx | apply wrapS | apply Qy | (with_reducible exact lenNil) | apply Eq.refl)) | ((with_reducible first | apply Y1 | apply Y2 | apply Y3 | show blkEq _ _ _); conv => whnf))
  all_goals try first
    | (exfalso; omega)
  (conv => whnf)
  apply CutP.to (G := Unit) (fun _ => True) [14] (fun _ => [(14, .i F)]) (fun _ => []) 0
  apply And.intro
  · repeat' (first | exact @id (emp _ = true) | (intro h; first | exact Bool.noConfusion h | (simp only [Qn] at h) | skip) | ((conv => whnf) <;> (first | exact trivial | apply Qa | apply And.intro | apply Qb | apply Qc | apply Qd | apply Qe | apply Qf | apply Qg | apply Qh | apply Qi | exact QA | exact QP | refine QG ?_ | apply Qj | apply Qk | apply Ql | apply Qm | apply Qo | apply Qp | apply Qw | apply Qv | apply Qu | apply Qt | apply Qs | apply Qr | apply Qq | apply Qx | apply wrapS | apply Qy | (with_reducible exact lenNil) | apply Eq.refl)) | ((with_reducible first | apply Y1 | apply Y2 | apply Y3 | show blkEq _ _ _); conv => whnf))
    apply LoopP.to (G := Nat × Unit) (fun (k, _) => k ≤ L.length) [0, 13, 14, 15, 102, 103, 104] (fun (k, _) => [(0, .i w), (13, .s (.c (slC 1 rowE M))), (14, .i F), (15, .i (cntT a)), (102, .s (.c (slC 1 rowE L))), (103, .s (.c (.i L.length))), (104, .i k)])
      (fun _ => []) 0 (fun (k, _) => L.length - k)
    apply And.intro
    · refine CutE.at (0, ()) ?_
      repeat' (first | exact @id (emp _ = true) | (intro h; first | exact Bool.noConfusion h | (simp only [Qn] at h) | skip) | ((conv => whnf) <;> (first | exact trivial | apply Qa | apply And.intro | apply Qb | apply Qc | apply Qd | apply Qe | apply Qf | apply Qg | apply Qh | apply Qi | exact QA | exact QP | refine QG ?_ | apply Qj | apply Qk | apply Ql | apply Qm | apply Qo | apply Qp | apply Qw | apply Qv | apply Qu | apply Qt | apply Qs | apply Qr | apply Qq | apply Qx | apply wrapS | apply Qy | (with_reducible exact lenNil) | apply Eq.refl)) | ((with_reducible first | apply Y1 | apply Y2 | apply Y3 | show blkEq _ _ _); conv => whnf))
      all_goals exact Nat.zero_le _
    rintro ⟨k, _⟩ hk
    have hk : k ≤ L.length := hk
    have hn9 := cnt_le a
    obtain ⟨n, hn⟩ : ∃ n, n = cntT a := ⟨_, rfl⟩
    rw [← hn] at hall hn9 ⊢
    have hw1 : IntKind.i64.wrap (((L.getD k default).length : Int) - w) = ((L.getD k default).length : Int) - w := by
      have := hrL.2 k
      exact wrap_i64 ⟨by omega, by omega⟩
    have hr6 := hrL.2 k
    have hL5 := hrL.1
    have hal : (k : Int) < (L.length : Int) → n + w.toNat ≤ (L.getD k default).length ∧ turnR n ((L.getD k default).length - w.toNat) (L.getD k default) ∈ M := fun h => hall _ (getD_in (Int.ofNat_lt.1 h))
    repeat' (first | exact @id (emp _ = true) | (intro h; first | exact Bool.noConfusion h | (simp only [Qn] at h) | skip) | ((conv => whnf) <;> (first | exact trivial | apply Qa | apply And.intro | refine CutE.at (A := Nat × Unit) (k + 1, ()) ?_ | refine CutE.at (A := List (List Int) × List Int) (M, turnR n ((L.getD k default).length - w.toNat) (L.getD k default)) ?_ | apply Qb | apply Qc | apply Qd | apply Qe | apply Qf | apply Qg | apply Qh | apply Qi | exact QA | exact QP | refine QG ?_ | apply Qj | apply Qk | apply Ql | apply Qm | apply Qo | apply Qp | apply Qw | apply Qv | apply Qu | apply Qt | apply Qs | apply Qr | apply Qq | apply Qx | apply wrapS | apply Qy | (with_reducible exact lenNil) | apply Eq.refl)) | ((with_reducible first | apply Y1 | apply Y2 | apply Y3 | show blkEq _ _ _); conv => whnf))
    all_goals try simp only [hw1, Int.toNat_natCast] at *
    all_goals first
      | omega
      | (have h := hal (by assumption); exfalso; omega)
      | (refine bytes_mul (c := 8) ?hb ?hn; (case hb => exact rfl); (case hn => omega))
      | exact hrM.1
      | exact hrM.2 _
      | (have h := hal (by assumption); rw [turn_len (by omega) (by omega)]; omega)
      | (have h := hal (by assumption); exact turn_cell (by omega) (by omega) rfl (by omega) (by omega) (by omega))
      | (have h := hal (by assumption); exact absurd h.2 (by assumption))
      | trace_state
  rintro ⟨⟩ _
  (conv => whnf)
  repeat' (first | exact @id (emp _ = true) | (intro h; first | exact Bool.noConfusion h | (simp only [Qn] at h) | skip) | ((conv => whnf) <;> (first | exact trivial | apply Qa | apply And.intro | apply Qb | apply Qc | apply Qd | apply Qe | apply Qf | apply Qg | apply Qh | apply Qi | exact QA | exact QP | refine QG ?_ | apply Qj | apply Qk | apply Ql | apply Qm | apply Qo | apply Qp | apply Qw | apply Qv | apply Qu | apply Qt | apply Qs | apply Qr | apply Qq | apply Qx | apply wrapS | apply Qy | (with_reducible exact lenNil) | apply Eq.refl)) | ((with_reducible first | apply Y1 | apply Y2 | apply Y3 | show blkEq _ _ _); conv => whnf))
  all_goals first
    | (rw [hF0]; rfl)
    | trace_state
end Go.Eng
