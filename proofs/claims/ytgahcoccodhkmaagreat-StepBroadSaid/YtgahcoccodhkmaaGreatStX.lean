/- A part of the walks, and of the machine that proves them (StX). -/
import Derived.Test.YtgahcoccodhkmaaGreatStM
import Derived.Test.YtgahcoccodhkmaaGreatStI
set_option linter.unusedVariables false
set_option linter.unusedSimpArgs false
namespace Go.Eng
open Go Go.Proofs
def lessK (i : Int) (th : List Th) : Nat → List Th
  | 0 => th
  | k + 1 => (lessK i th k).set k (lessT i ((lessK i th k).getD k default))
theorem lessK_len (i : Int) (th : List Th) : ∀ k, (lessK i th k).length = th.length
  | 0 => rfl
  | k + 1 => by rw [lessK, List.length_set, lessK_len i th k]
theorem lessK_ge (i : Int) (th : List Th) : ∀ (k j : Nat), k ≤ j → (lessK i th k).getD j default = th.getD j default
  | 0, _, _ => rfl
  | k + 1, j, h => by
    rw [lessK, List.getD_eq_getElem?_getD, List.getElem?_set_ne (by omega), ← List.getD_eq_getElem?_getD]
    exact lessK_ge i th k j (by omega)
theorem lessK_lt (i : Int) (th : List Th) : ∀ (k j : Nat), j < k → j < th.length → (lessK i th k).getD j default = lessT i (th.getD j default)
  | 0, _, h, _ => by omega
  | k + 1, j, h, hj => by
    rw [lessK]
    by_cases e : k = j
    · subst e
      rw [List.getD_eq_getElem?_getD, List.getElem?_set_self (by rw [lessK_len]; exact hj), lessK_ge i th k k (Nat.le_refl _)]; rfl
    · rw [List.getD_eq_getElem?_getD, List.getElem?_set_ne e, ← List.getD_eq_getElem?_getD]
      exact lessK_lt i th k j (by omega) hj
theorem lessK_all (i : Int) (th : List Th) : lessK i th th.length = th.map (lessT i) := by
  apply List.ext_getElem (by rw [lessK_len, List.length_map])
  intro j h1 h2
  rw [lessK_len] at h1
  have := lessK_lt i th th.length j h1 h1
  rw [List.getD_eq_getElem?_getD, List.getElem?_eq_getElem (by rw [lessK_len]; exact h1), List.getD_eq_getElem?_getD, List.getElem?_eq_getElem h1] at this
  rw [List.getElem_map]
  exact this
theorem dec_max2 {x y : Int} (h : 0 ≤ x ∧ x ≤ 8) (hy : y = IntKind.i64.wrap (x - 1)) : decF x = if 0 > y then 0 else y := by
  subst hy
  rw [wrap_i64 (by omega)]
  unfold decF
  split <;> split <;> omega
theorem upd_left {L : List Th} {k : Nat} {lf : List Int} (hk : k < L.length) (he : emp lf = false) (i' t' : Nat) (hi : i' < L.length) (ht : t' < 13) :
    upd2 (slG (thE true) L) k 12 [.ro lf.length 1 false (slG encI lf)] i' t' = slG (thE true) (L.set k (leftT (L.getD k default) lf)) i' t' := by
  unfold upd2 slG
  by_cases e : i' = k
  · subst e
    have e1 : (L.set i' (leftT (L.getD i' default) lf)).getD i' default = leftT (L.getD i' default) lf := by
      rw [List.getD_eq_getElem?_getD, List.getElem?_set_self hk]; rfl
    rw [e1, thE_left he]
    by_cases e2 : 12 ≤ t'
    · have : t' = 12 := by omega
      subst this
      rw [if_pos ⟨rfl, by omega, by simp⟩]; rfl
    · rw [if_neg (by omega)]
      have : t' = 0 ∨ t' = 1 ∨ t' = 2 ∨ t' = 3 ∨ t' = 4 ∨ t' = 5 ∨ t' = 6 ∨ t' = 7 ∨ t' = 8 ∨ t' = 9 ∨ t' = 10 ∨ t' = 11 := by omega
      rcases this with rfl | rfl | rfl | rfl | rfl | rfl | rfl | rfl | rfl | rfl | rfl | rfl <;> rfl
  · rw [if_neg (fun h => e h.1), List.getD_eq_getElem?_getD (l := L.set _ _), List.getElem?_set_ne (Ne.symm e), ← List.getD_eq_getElem?_getD]
def dropB (l : List Nat) : List (Nat × Blk) → List (Nat × Blk)
  | [] => []
  | (i, b) :: r => match memN i l with
    | true => dropB l r
    | false => (i, b) :: dropB l r
/-- A cut that lets blocks go. -/
theorem CutP.upD {regs : List RV} {bs : List (Nat × Blk)} {nx : Nat} {p : (G : Type) → (G → Prop) → (G → St) → Prop} {G : Type} (I : G → Prop) (live : List Nat)
    (U : G → List (Nat × RV)) (ds : List Nat) (B : G → List (Nat × Blk)) (nx' : Nat)
    (h : p G I (fun g => ⟨maskR live (U g) 0 regs, dropB ds (updB bs (B g)), nx'⟩)) : CutP ⟨regs, bs, nx⟩ p := ⟨⟨G, I, _, h⟩⟩
structure LessPre (w : Wd) (i : Int) : Prop where
  n : w.th.length ≤ 8
  i : 0 ≤ i ∧ i < w.th.length
  lf : ∀ k, ((w.th.getD k default).lf.length = 0 ∨ (w.th.getD k default).lf.length = w.th.length) ∧ ∀ j, 0 ≤ (w.th.getD k default).lf.getD j default ∧ (w.th.getD k default).lf.getD j default ≤ 8
def sWLess : FSpec := lentSpec 1 Wk8 (fun _ => [.c (.ptr 0 0)]) (fun (w, i, t, x) => wxB w i t x) (fun (w, i, _, _) => LessPre w i) (fun _ => .tup []) fun (w, i, t, x) => wxB (thsW w (w.th.map (lessT i))) i t x
set_option maxHeartbeats 2000000 in
set_option maxRecDepth 100000 in
theorem wless_ok : Meets Tryz.prog 54 sWLess := by
  refine meets_lent 1 O1_ok rfl [8] (fn := Tryz.f54) rfl rfl rfl (by decide) (fun _ => rfl) (fun _ => rfl) (by decide) fun ⟨w, i, t, op, a, b, c⟩ hp => ?_
  have hp : LessPre w i := hp
  have hn := hp.n
  have hi := hp.i
  repeat' (first | exact @id (emp _ = true) | (intro h; first | exact Bool.noConfusion h | (simp only [Qn] at h) | skip) | ((conv => whnf) <;> (first | exact trivial | apply Qa | apply And.intro | (refine CutE.at (A := List Th) w.th ?_) | apply Qb | apply Qc | apply Qd | apply Qe | apply Qf | apply Qg | apply Qh | apply Qi | exact QA | exact QP | refine QG ?_ | apply Qj | apply Qk | apply Ql | apply Qm | apply Qo | apply Qp | apply Qw | apply Qv | apply Qu | apply Qt | apply Qs | apply Qr | apply Qq | apply Qx | apply wrapS | apply Qy | (with_reducible exact lenNil) | apply Eq.refl)) | ((with_reducible first | apply Y1 | apply Y2 | apply Y3 | show blkEq _ _ _); conv => whnf))
  all_goals try (show w.th.length ≤ 1000000; omega)
  apply LoopP.up (G := Nat) (fun k => k ≤ w.th.length) [0, 19, 20] (fun k => [(20, .i k)]) (fun k => [(1, .slc 44 13 w.th.length (slG (thE true) (lessK i w.th k)))]) 2 (fun k => w.th.length - k)
  apply And.intro
  · refine CutE.at 0 ?_
    repeat' (first | exact @id (emp _ = true) | (intro h; first | exact Bool.noConfusion h | (simp only [Qn] at h) | skip) | ((conv => whnf) <;> (first | exact trivial | apply Qa | apply And.intro | apply EntP.id 2 | apply Qb | apply Qc | apply Qd | apply Qe | apply Qf | apply Qg | apply Qh | apply Qi | exact QA | exact QP | refine QG ?_ | apply Qj | apply Qk | apply Ql | apply Qm | apply Qo | apply Qp | apply Qw | apply Qv | apply Qu | apply Qt | apply Qs | apply Qr | apply Qq | apply Qx | apply wrapS | apply Qy | (with_reducible exact lenNil) | apply Eq.refl)) | ((with_reducible first | apply Y1 | apply Y2 | apply Y3 | show blkEq _ _ _); conv => whnf))
    all_goals try simp only [Int.toNat_natCast, Int.toNat_zero, ge_iff_le, gt_iff_lt, Int.ofNat_le, Int.ofNat_lt, Int.ofNat_inj] at *
    all_goals first
      | omega
      | (dsimp only; omega)
      | assumption
      | exact Up.zero _
      | (show ((8 : Nat) : Int) * _ ≤ _; omega)
      | (show _ * (8 : Nat) ≤ _; omega)
      | (show _ * (16 : Nat) ≤ _; omega)
      | (show _ * (24 : Nat) ≤ _; omega)
      | trace_state
  · intro k hk
    have hL := lessK_len i w.th k
    have hx := lessK_ge i w.th k k (Nat.le_refl _)
    obtain ⟨h2, h3⟩ := hp.lf k
    rw [← hx] at h2 h3
    have h4 := h3 i.toNat
    have e0 : (k : Int).toNat = k := Int.toNat_natCast k
    have hsk : k < w.th.length → lessK i w.th (k + 1) = (lessK i w.th k).set k (lessT i ((lessK i w.th k).getD k default)) := fun _ => rfl
    have hempty : k < w.th.length → ¬ ((((lessK i w.th k).getD k default).lf.length : Nat) : Int) > 0 → lessK i w.th (k + 1) = lessK i w.th k := fun hk h => by
      rw [hsk hk]
      have : lessT i ((lessK i w.th k).getD k default) = (lessK i w.th k).getD k default := if_neg (by omega)
      rw [this]
      apply List.ext_getElem (by simp)
      intro j h1 h2
      rw [List.getElem_set]
      split
      · rename_i e; subst e
        rw [List.getD_eq_getElem?_getD, List.getElem?_eq_getElem h2]; rfl
      · rfl
    obtain ⟨lf, hlf⟩ : ∃ lf, ((lessK i w.th k).getD k default).lf.set i.toNat (decF (((lessK i w.th k).getD k default).lf.getD i.toNat default)) = lf := ⟨_, rfl⟩
    have hfull : k < w.th.length → ((((lessK i w.th k).getD k default).lf.length : Nat) : Int) > 0 → lessK i w.th (k + 1) = (lessK i w.th k).set k (leftT ((lessK i w.th k).getD k default) lf) ∧ emp lf = false ∧ lf.length = ((lessK i w.th k).getD k default).lf.length := fun hk h => by
      refine ⟨?_, by rw [← hlf]; exact emp_set (by omega), by rw [← hlf, List.length_set]⟩
      rw [hsk hk]
      have : lessT i ((lessK i w.th k).getD k default) = leftT ((lessK i w.th k).getD k default) lf := by unfold lessT; rw [if_pos (by omega), hlf]
      rw [this]
    have hall : k = w.th.length → lessK i w.th k = w.th.map (lessT i) := fun h => by rw [h]; exact lessK_all i w.th
    repeat' (first | exact @id (emp _ = true) | (intro h; first | exact Bool.noConfusion h | (simp only [Qn] at h) | skip) | ((conv => whnf) <;> (first | exact trivial | apply Qa | apply And.intro | (refine CutE.at (A := List Int) ((lessK i w.th k).getD k default).lf ?_) | (refine CutE.at (A := Nat) (k + 1) ?_) | (refine EntP.at (n := 1) [⟨true, 0, 5, 0, 0⟩] [0] ?_) | (refine EntP.at (n := 2) [] [0, 1] ?_) | apply Qb | apply Qc | apply Qd | apply Qe | apply Qf | apply Qg | apply Qh | apply Qi | exact QA | exact QP | refine QG ?_ | apply Qj | apply Qk | apply Ql | apply Qm | apply Qo | apply Qp | apply Qw | apply Qv | apply Qu | apply Qt | apply Qs | apply Qr | apply Qq | apply Qx | apply wrapS | apply Qy | (with_reducible exact lenNil) | apply Eq.refl)) | ((with_reducible first | apply Y1 | apply Y2 | apply Y3 | show blkEq _ _ _); conv => whnf))
    all_goals try first
      | omega
      | (show w.th.length - (k + 1) < w.th.length - k; omega)
      | (show k + 1 ≤ w.th.length; omega)
      | (show ((lessK i w.th k).getD k default).lf.length ≤ 1000000; omega)
      | (rw [hempty (by omega) (by assumption)])
      | (show (w.th.map (lessT i)).length = _; rw [List.length_map])
      | (show slG (thE true) (w.th.map (lessT i)) _ _ = _; rw [hall (by omega)])
    apply CutP.upD (G := Unit) (fun _ => True) [0, 2, 3, 19, 20] (fun _ => [(3, .c (.ro lf.length 1 false (slG encI lf)))]) [2] (fun _ => [(1, .slc 44 13 w.th.length (slG (thE true) (lessK i w.th k)))]) 2
    have hpos : ((((lessK i w.th k).getD k default).lf.length : Nat) : Int) > 0 := by assumption
    obtain ⟨hf1, hf2, hf3⟩ := hfull (by omega) hpos
    apply And.intro
    · repeat' (first | exact @id (emp _ = true) | (intro h; first | exact Bool.noConfusion h | (simp only [Qn] at h) | skip) | ((conv => whnf) <;> (first | exact trivial | apply Qa | apply And.intro | refine CutE.at (A := Unit) () ?_ | (refine EntP.at (n := 2) [] [0, 1] ?_) | apply Qb | apply Qc | apply Qd | apply Qe | apply Qf | apply Qg | apply Qh | apply Qi | exact QA | exact QP | refine QG ?_ | apply Qj | apply Qk | apply Ql | apply Qm | apply Qo | apply Qp | apply Qw | apply Qv | apply Qu | apply Qt | apply Qs | apply Qr | apply Qq | apply Qx | apply wrapS | apply Qy | (with_reducible exact lenNil) | apply Eq.refl)) | ((with_reducible first | apply Y1 | apply Y2 | apply Y3 | show blkEq _ _ _); conv => whnf))
      all_goals try simp only [e0] at *
      all_goals first
        | omega
        | exact True.intro
        | (have hq := ‹_ < lf.length›
           rw [← hlf, dec_max2 h4 rfl] at hq ⊢
           exact slG_set1 (by omega) hq (by assumption))
        | trace_state
    · rintro ⟨⟩ _
      repeat' (first | exact @id (emp _ = true) | (intro h; first | exact Bool.noConfusion h | (simp only [Qn] at h) | skip) | ((conv => whnf) <;> (first | exact trivial | apply Qa | apply And.intro | (refine CutE.at (A := Nat) (k + 1) ?_) | (refine EntP.at (n := 2) [] [0, 1] ?_) | apply Qb | apply Qc | apply Qd | apply Qe | apply Qf | apply Qg | apply Qh | apply Qi | exact QA | exact QP | refine QG ?_ | apply Qj | apply Qk | apply Ql | apply Qm | apply Qo | apply Qp | apply Qw | apply Qv | apply Qu | apply Qt | apply Qs | apply Qr | apply Qq | apply Qx | apply wrapS | apply Qy | (with_reducible exact lenNil) | apply Eq.refl)) | ((with_reducible first | apply Y1 | apply Y2 | apply Y3 | show blkEq _ _ _); conv => whnf))
      all_goals try simp only [e0] at *
      all_goals first
        | omega
        | (show w.th.length - (k + 1) < w.th.length - k; omega)
        | (show k + 1 ≤ w.th.length; omega)
        | (rw [hf1]; exact (upd_left (by omega) hf2 _ _ (by omega) (by assumption)).symm)
        | trace_state
end Go.Eng
