/- A part of the walks, and of the machine that proves them (LtX). -/
import Derived.Test.YtgahcoccodhkmaaDoorLtW
set_option linter.unusedVariables false
set_option linter.unusedSimpArgs false
namespace Go.Eng
open Go Go.Proofs
theorem comp_snoc : ∀ (l : List (List Int)) (y z : List Int), compact (l ++ [y] ++ [z]) = if y = z then compact (l ++ [y]) else compact (l ++ [y]) ++ [z]
  | [], y, z => by
    show compact [y, z] = if y = z then compact [y] else compact [y] ++ [z]
    unfold compact
    split
    · rename_i e; subst e; rfl
    · rfl
  | [x], y, z => by
    have h := comp_snoc [] y z
    show compact (x :: ([] ++ [y] ++ [z])) = if y = z then compact [x, y] else compact [x, y] ++ [z]
    show (if x = y then compact ([] ++ [y] ++ [z]) else x :: compact ([] ++ [y] ++ [z])) = if y = z then (if x = y then compact [y] else x :: compact [y]) else (if x = y then compact [y] else x :: compact [y]) ++ [z]
    rw [h]
    by_cases e1 : x = y <;> by_cases e2 : y = z <;> simp [e1, e2]
  | x :: w :: l, y, z => by
    have h := comp_snoc (w :: l) y z
    show (if x = w then compact (w :: l ++ [y] ++ [z]) else x :: compact (w :: l ++ [y] ++ [z])) = if y = z then (if x = w then compact (w :: l ++ [y]) else x :: compact (w :: l ++ [y])) else (if x = w then compact (w :: l ++ [y]) else x :: compact (w :: l ++ [y])) ++ [z]
    rw [h]
    by_cases e1 : x = w <;> by_cases e2 : y = z <;> simp [e1, e2]
theorem comp_take {L : List (List Int)} {k : Nat} (h1 : 1 ≤ k) (hk : k < L.length) : compact (L.take (k + 1)) = if L.getD k default = L.getD (k - 1) default then compact (L.take k) else compact (L.take k) ++ [L.getD k default] := by
  obtain ⟨j, rfl⟩ : ∃ j, k = j + 1 := ⟨k - 1, by omega⟩
  rw [take_getD (d := default) hk, take_getD (d := default) (show j < L.length by omega), comp_snoc]
  show _ = if L.getD (j + 1) default = L.getD j default then _ else _
  by_cases e : L.getD j default = L.getD (j + 1) default
  · rw [if_pos e, if_pos e.symm]
  · rw [if_neg e, if_neg fun h => e h.symm]
theorem comp_one {L : List (List Int)} (h : L.length < 2) : compact L = L := by
  match L, h with
  | [], _ => rfl
  | [x], _ => rfl
/-- Row k of the one and the other. -/
structure CmpI (L M : List (List Int)) (k k2 kk : Nat) : Prop where
  h1 : 1 ≤ k2
  hn : k + k2 ≤ L.length
  len : M.length = L.length
  ek : kk = (compact (L.take (k + k2))).length
  lt : kk < k + k2
  low : ∀ i, i < kk → M.getD i default = (compact (L.take (k + k2))).getD i default
  high : ∀ i, k + k2 ≤ i + 1 → i < L.length → M.getD i default = L.getD i default
theorem CmpI.start {L : List (List Int)} {k : Nat} (h1 : 1 ≤ k) (hk : k < L.length) (hc : compact (L.take k) = L.take k) (hd : L.getD k default = L.getD (k - 1) default) : CmpI L L k 1 k := by
  have e : compact (L.take (k + 1)) = L.take k := by rw [comp_take h1 hk, if_pos hd, hc]
  have hl : (L.take k).length = k := by rw [List.length_take]; omega
  refine ⟨Nat.le_refl _, by omega, rfl, by rw [e, hl], by omega, fun i hi => ?_, fun _ _ _ => rfl⟩
  rw [e, List.getD_eq_getElem?_getD, List.getD_eq_getElem?_getD, List.getElem?_take_of_lt hi]
theorem CmpI.skip {L M : List (List Int)} {k k2 kk : Nat} (h : CmpI L M k k2 kk) (hk : 1 ≤ k) (hlt : k + k2 < L.length) (hd : M.getD (k + k2) default = M.getD (k + k2 - 1) default) : CmpI L M k (k2 + 1) kk := by
  have a := h.h1
  rw [h.high (k + k2) (by omega) hlt, h.high (k + k2 - 1) (by omega) (by omega)] at hd
  have e : compact (L.take (k + (k2 + 1))) = compact (L.take (k + k2)) := by rw [← Nat.add_assoc, comp_take (by omega) hlt, if_pos hd]
  exact ⟨by omega, by omega, h.len, by rw [e]; exact h.ek, by have := h.lt; omega, fun i hi => by rw [e]; exact h.low i hi, fun i hi hl => h.high i (by omega) hl⟩
theorem CmpI.keep {L M : List (List Int)} {k k2 kk : Nat} (h : CmpI L M k k2 kk) (hk : 1 ≤ k) (hlt : k + k2 < L.length) (hd : ¬ M.getD (k + k2) default = M.getD (k + k2 - 1) default) : CmpI L (M.set kk (M.getD (k + k2) default)) k (k2 + 1) (kk + 1) := by
  have a := h.h1
  have hM := h.high (k + k2) (by omega) hlt
  rw [hM, h.high (k + k2 - 1) (by omega) (by omega)] at hd
  rw [hM]
  have e : compact (L.take (k + (k2 + 1))) = compact (L.take (k + k2)) ++ [L.getD (k + k2) default] := by rw [← Nat.add_assoc, comp_take (by omega) hlt, if_neg hd]
  have hlt' := h.lt
  have hkk := h.ek
  refine ⟨by omega, by omega, by rw [List.length_set]; exact h.len, by rw [e, List.length_append, ← hkk]; rfl, by omega, fun i hi => ?_, fun i hi hl => ?_⟩
  · rw [e]
    simp only [List.getD_eq_getElem?_getD]
    by_cases ei : i = kk
    · subst ei
      rw [List.getElem?_set_self (by rw [h.len]; omega), List.getElem?_append_right (by omega), ← hkk, Nat.sub_self]
      rfl
    · rw [List.getElem?_set_ne (fun e => ei e.symm), List.getElem?_append_left (by omega), ← List.getD_eq_getElem?_getD, ← List.getD_eq_getElem?_getD]
      exact h.low i (by omega)
  · simp only [List.getD_eq_getElem?_getD]
    rw [List.getElem?_set_ne (by omega), ← List.getD_eq_getElem?_getD, ← List.getD_eq_getElem?_getD]
    exact h.high i (by omega) hl
def Rows5 (L : List (List Int)) : Prop := L.length ≤ 5000000000 ∧ ∀ i, (L.getD i default).length ≤ 1000000
def sComp : FSpec := lentSpec 1 (List (List Int)) (fun _ => [.c (.osl 0), .c (.fn 25 [])]) (fun L => [.slc 36 1 L.length (slG rowE L)]) Rows5 (fun L => .c (slC 1 rowE (compact L))) fun _ => [.gone]
set_option maxHeartbeats 8000000 in
set_option maxRecDepth 100000 in
theorem comp_ok : Meets Tryd.prog 24 sComp := by
  refine meets_lent 1 (gok_cons eqL_ok (gok_nil _) : GOK Tryd.prog (tab [(25, sEqL)])) rfl [16] (fn := Tryd.f24) rfl rfl rfl (by decide) (fun _ => rfl) (fun _ => rfl) (by decide) fun L h => ?_
  obtain ⟨hL, hb⟩ : L.length ≤ 5000000000 ∧ ∀ i, (L.getD i default).length ≤ 1000000 := h
  repeat' (first | exact @id (emp _ = true) | (intro h; first | exact Bool.noConfusion h | (simp only [Qn] at h) | skip) | ((conv => whnf) <;> (first | exact trivial | apply Qa | apply And.intro | (refine EntP.at [⟨false, 0, 0, 0, 0⟩] [0] ?_; (conv => whnf); fail_if_success (show False)) | apply Qb | apply Qc | apply Qd | apply Qe | apply Qf | apply Qg | apply Qh | apply Qi | exact QA | exact QP | refine QG ?_ | apply Qj | apply Qk | apply Ql | apply Qm | apply Qo | apply Qp | apply Qw | apply Qv | apply Qu | apply Qt | apply Qs | apply Qr | apply Qq | apply Qx | apply wrapS | apply Qy | (with_reducible exact lenNil) | apply Eq.refl)) | ((with_reducible first | apply Y1 | apply Y2 | apply Y3 | show blkEq _ _ _); conv => whnf))
  all_goals try first
    | exact congrArg List.length (comp_one (L := L) (by omega))
    | (show slG rowE (compact L) _ _ = slG rowE L _ _; rw [comp_one (L := L) (by omega)])
  apply CutP.to (G := Unit) (fun _ => compact L = L) [0] (fun _ => []) (fun _ => [(0, .slc 36 1 L.length (slG rowE L))]) 1
  apply And.intro
  rotate_left 1
  · rintro ⟨⟩ hc
    have hc : compact L = L := hc
    repeat' (first | exact @id (emp _ = true) | (intro h; first | exact Bool.noConfusion h | (simp only [Qn] at h) | skip) | ((conv => whnf) <;> (first | exact trivial | apply Qa | apply And.intro | (refine EntP.at [⟨false, 0, 0, 0, 0⟩] [0] ?_; (conv => whnf); fail_if_success (show False)) | apply Qb | apply Qc | apply Qd | apply Qe | apply Qf | apply Qg | apply Qh | apply Qi | exact QA | exact QP | refine QG ?_ | apply Qj | apply Qk | apply Ql | apply Qm | apply Qo | apply Qp | apply Qw | apply Qv | apply Qu | apply Qt | apply Qs | apply Qr | apply Qq | apply Qx | apply wrapS | apply Qy | (with_reducible exact lenNil) | apply Eq.refl)) | ((with_reducible first | apply Y1 | apply Y2 | apply Y3 | show blkEq _ _ _); conv => whnf))
    all_goals first
      | exact congrArg List.length hc
      | (show slG rowE (compact L) _ _ = slG rowE L _ _; rw [hc])
      | trace_state
  have hend : ∀ k, k ≤ L.length → ¬ (k : Int) < L.length → compact (L.take k) = L.take k → compact L = L := fun k h1 h2 h3 => by
    rw [List.take_of_length_le (by omega)] at h3
    exact h3
  repeat' (first | exact @id (emp _ = true) | (intro h; first | exact Bool.noConfusion h | (simp only [Qn] at h) | skip) | ((conv => whnf) <;> (first | exact trivial | apply Qa | apply And.intro | apply Qb | apply Qc | apply Qd | apply Qe | apply Qf | apply Qg | apply Qh | apply Qi | exact QA | exact QP | refine QG ?_ | apply Qj | apply Qk | apply Ql | apply Qm | apply Qo | apply Qp | apply Qw | apply Qv | apply Qu | apply Qt | apply Qs | apply Qr | apply Qq | apply Qx | apply wrapS | apply Qy | (with_reducible exact lenNil) | apply Eq.refl)) | ((with_reducible first | apply Y1 | apply Y2 | apply Y3 | show blkEq _ _ _); conv => whnf))
  apply LoopP.to (G := Nat) (fun k => 1 ≤ k ∧ k ≤ L.length ∧ compact (L.take k) = L.take k) [0, 1, 5] (fun k => [(5, .i k)]) (fun _ => [(0, .slc 36 1 L.length (slG rowE L))]) 1 (fun k => L.length - k)
  apply And.intro
  · refine CutE.at 1 ?_
    repeat' (first | exact @id (emp _ = true) | (intro h; first | exact Bool.noConfusion h | (simp only [Qn] at h) | skip) | ((conv => whnf) <;> (first | exact trivial | apply Qa | apply And.intro | apply Qb | apply Qc | apply Qd | apply Qe | apply Qf | apply Qg | apply Qh | apply Qi | exact QA | exact QP | refine QG ?_ | apply Qj | apply Qk | apply Ql | apply Qm | apply Qo | apply Qp | apply Qw | apply Qv | apply Qu | apply Qt | apply Qs | apply Qr | apply Qq | apply Qx | apply wrapS | apply Qy | (with_reducible exact lenNil) | apply Eq.refl)) | ((with_reducible first | apply Y1 | apply Y2 | apply Y3 | show blkEq _ _ _); conv => whnf))
    all_goals first
      | omega
      | exact comp_one (by rw [List.length_take]; omega)
      | trace_state
  rintro k ⟨h1, hk, hc⟩
  have hw1 : IntKind.i64.wrap ((k : Int) - 1) = ((k - 1 : Nat) : Int) := by rw [wrap_i64 ⟨by omega, by omega⟩]; omega
  repeat' (first | exact @id (emp _ = true) | (intro h; first | exact Bool.noConfusion h | (simp only [Qn] at h) | skip) | ((conv => whnf) <;> (first | exact trivial | apply Qa | apply And.intro | refine CutE.at (A := Nat) (k + 1) ?_ | apply Qb | apply Qc | apply Qd | apply Qe | apply Qf | apply Qg | apply Qh | apply Qi | exact QA | exact QP | refine QG ?_ | apply Qj | apply Qk | apply Ql | apply Qm | apply Qo | apply Qp | apply Qw | apply Qv | apply Qu | apply Qt | apply Qs | apply Qr | apply Qq | apply Qx | apply wrapS | apply Qy | (with_reducible exact lenNil) | apply Eq.refl)) | ((with_reducible first | apply Y1 | apply Y2 | apply Y3 | show blkEq _ _ _); conv => whnf))
  all_goals try (fail_if_success (with_reducible show W _ _ _ _ _ _ _ _)); (fail_if_success (with_reducible show litK _ _ _ _)); simp only [hw1, Int.toNat_natCast] at *
  all_goals try first
    | omega
    | exact hb _
    | exact hend k hk (by assumption) hc
    | (rw [comp_take h1 (by omega), if_neg (by assumption), hc, ← take_getD (by omega)])
  have hlt : k < L.length := by omega
  have hd : L.getD k default = L.getD (k - 1) default := by assumption
  repeat' (first | exact @id (emp _ = true) | (intro h; first | exact Bool.noConfusion h | (simp only [Qn] at h) | skip) | ((conv => whnf) <;> (first | exact trivial | apply Qa | apply And.intro | apply Qb | apply Qc | apply Qd | apply Qe | apply Qf | apply Qg | apply Qh | apply Qi | exact QA | exact QP | refine QG ?_ | apply Qj | apply Qk | apply Ql | apply Qm | apply Qo | apply Qp | apply Qw | apply Qv | apply Qu | apply Qt | apply Qs | apply Qr | apply Qq | apply Qx | apply wrapS | apply Qy | (with_reducible exact lenNil) | apply Eq.refl)) | ((with_reducible first | apply Y1 | apply Y2 | apply Y3 | show blkEq _ _ _); conv => whnf))
  apply LoopP.to (G := (Nat × Nat × List (List Int))) (fun s => CmpI L s.2.2 k s.2.1 s.1) [0, 1, 5, 6, 7] (fun s => [(5, .i s.1), (6, .s (.c (.osv 0 1 k (L.length - k)))), (7, .i s.2.1)]) (fun s => [(0, .slc 36 1 L.length (slG rowE s.2.2))]) 1 (fun s => L.length - s.2.1)
  apply And.intro
  · refine CutE.at (k, 1, L) ?_
    repeat' (first | exact @id (emp _ = true) | (intro h; first | exact Bool.noConfusion h | (simp only [Qn] at h) | skip) | ((conv => whnf) <;> (first | exact trivial | apply Qa | apply And.intro | apply Qb | apply Qc | apply Qd | apply Qe | apply Qf | apply Qg | apply Qh | apply Qi | exact QA | exact QP | refine QG ?_ | apply Qj | apply Qk | apply Ql | apply Qm | apply Qo | apply Qp | apply Qw | apply Qv | apply Qu | apply Qt | apply Qs | apply Qr | apply Qq | apply Qx | apply wrapS | apply Qy | (with_reducible exact lenNil) | apply Eq.refl)) | ((with_reducible first | apply Y1 | apply Y2 | apply Y3 | show blkEq _ _ _); conv => whnf))
    all_goals first
      | omega
      | exact CmpI.start h1 hlt hc hd
      | trace_state
  rintro ⟨kk, k2, M⟩ hI
  have hI : CmpI L M k k2 kk := hI
  have g1 := hI.h1
  have g2 := hI.hn
  have g3 := hI.lt
  have hw2 : IntKind.i64.wrap ((k2 : Int) - 1) = ((k2 - 1 : Nat) : Int) := by rw [wrap_i64 ⟨by omega, by omega⟩]; omega
  have hsk := hI.skip h1
  have hkp := hI.keep h1
  obtain ⟨a, M', hy, hn⟩ : ∃ (a : Nat) (M' : List (List Int)), (M.getD (k + k2) default = M.getD (k + k2 - 1) default → a = kk ∧ M' = M) ∧ (¬ M.getD (k + k2) default = M.getD (k + k2 - 1) default → a = kk + 1 ∧ M' = M.set kk (M.getD (k + k2) default)) := by
    by_cases h : M.getD (k + k2) default = M.getD (k + k2 - 1) default
    · exact ⟨kk, M, fun _ => ⟨rfl, rfl⟩, fun h' => absurd h h'⟩
    · exact ⟨kk + 1, _, fun h' => absurd h' h, fun _ => ⟨rfl, rfl⟩⟩
  have hI' : k + k2 < L.length → CmpI L M' k (k2 + 1) a := fun hlt => by
    by_cases h : M.getD (k + k2) default = M.getD (k + k2 - 1) default
    · obtain ⟨rfl, rfl⟩ := hy h
      exact hsk hlt h
    · obtain ⟨rfl, rfl⟩ := hn h
      exact hkp hlt h
  have hMb : ∀ i, k + k2 ≤ i + 1 → (M.getD i default).length ≤ 1000000 := fun i hi => by
    by_cases hl : i < L.length
    · rw [hI.high i hi hl]; exact hb i
    · rw [List.getD_eq_getElem?_getD, List.getElem?_eq_none (by rw [hI.len]; omega)]
      exact Nat.zero_le _
  have hidx : k + (k2 - 1) = k + k2 - 1 := by omega
  have hset : kk < L.length := by omega
  have hMl := hI.len
  have hres : k + k2 = L.length → (compact L).length = kk ∧ ∀ i, i < kk → (compact L).getD i default = M.getD i default := fun h => by
    have e := hI.ek
    have lw := hI.low
    rw [List.take_of_length_le (by omega)] at e lw
    exact ⟨e.symm, fun i hi => (lw i hi).symm⟩
  repeat' (first | exact @id (emp _ = true) | (intro h; first | exact Bool.noConfusion h | (simp only [Qn] at h) | skip) | ((conv => whnf) <;> (first | exact trivial | apply Qa | apply And.intro | refine CutE.at (A := Nat × Nat × List (List Int)) (a, k2 + 1, M') ?_ | apply Qb | apply Qc | apply Qd | apply Qe | apply Qf | apply Qg | apply Qh | apply Qi | exact QA | exact QP | refine QG ?_ | apply Qj | apply Qk | apply Ql | apply Qm | apply Qo | apply Qp | apply Qw | apply Qv | apply Qu | apply Qt | apply Qs | apply Qr | apply Qq | apply Qx | apply wrapS | apply Qy | (with_reducible exact lenNil) | apply Eq.refl)) | ((with_reducible first | apply Y1 | apply Y2 | apply Y3 | show blkEq _ _ _); conv => whnf))
  all_goals try simp only [hw2, Int.toNat_natCast, hidx] at *
  all_goals try first
    | omega
    | exact ⟨hMb _ (by omega), hMb _ (by omega)⟩
    | exact hMb _ (by omega)
    | exact hI' (by omega)
    | (rw [(hn (by assumption)).1]; exact (wrap_add1 (by omega)).symm)
    | (rw [(hy (by assumption)).1]; done)
    | (rw [(hy (by assumption)).1] <;> rfl)
    | (rw [(hy (by assumption)).2]; done)
    | (rw [(hy (by assumption)).2] <;> rfl)
    | (rw [(hn (by assumption)).2]; exact (slG_set (enc := rowE) (k := 1) (fun _ => rfl) (by omega) _ (by omega) _ (by assumption)).symm)
  rename_i i hi t
  obtain ⟨e1, e2⟩ := hres (by omega)
  rw [e1] at hi
  show slG rowE (compact L) i t = if 0 + i < kk then slG rowE M (0 + i) t else Cell.v (Value.slice none 0 0)
  rw [Nat.zero_add, if_pos hi]
  show (rowE ((compact L).getD i default)).getD t .any = (rowE (M.getD i default)).getD t .any
  rw [e2 i hi]
/-- Is a row this one? -/
def sCanF : FSpec := lentSpec 1 (List Int × List Int) (fun (x, _) => [.c (intsS x), .c (.ptr 0 0)]) (fun (_, o) => [.row 36 [intsS o]]) (fun (x, _) => x.length ≤ 1000000) (fun (x, o) => .b (decide (x = o))) fun (_, o) => [.row 36 [intsS o]]
set_option maxRecDepth 100000 in
theorem canF_ok : Meets Tryd.prog 28 sCanF := by
  refine meets_lent 1 (gok_cons eqL_ok (gok_nil _) : GOK Tryd.prog (tab [(25, sEqL)])) rfl [] (fn := Tryd.f28) rfl rfl rfl (by decide) (fun _ => rfl) (fun _ => rfl) (by decide) fun ⟨x, o⟩ h => ?_
  have h : x.length ≤ 1000000 := h
  repeat' (first | exact @id (emp _ = true) | (intro h; first | exact Bool.noConfusion h | (simp only [Qn] at h) | skip) | ((conv => whnf) <;> (first | exact trivial | apply Qa | apply And.intro | apply Qb | apply Qc | apply Qd | apply Qe | apply Qf | apply Qg | apply Qh | apply Qi | exact QA | exact QP | refine QG ?_ | apply Qj | apply Qk | apply Ql | apply Qm | apply Qo | apply Qp | apply Qw | apply Qv | apply Qu | apply Qt | apply Qs | apply Qr | apply Qq | apply Qx | apply wrapS | apply Qy | (with_reducible exact lenNil) | apply Eq.refl)) | ((with_reducible first | apply Y1 | apply Y2 | apply Y3 | show blkEq _ _ _); conv => whnf))
  all_goals first
    | exact h
    | trace_state
def idxO (o : List Int) : List (List Int) → Nat → Int
  | [], _ => -1
  | x :: l, k => if x = o then (k : Int) else idxO o l (k + 1)
theorem idxO_any (o : List Int) : ∀ (l : List (List Int)) (k : Nat), decide (0 ≤ idxO o l k) = decide (o ∈ l)
  | [], k => by simp [idxO]
  | x :: l, k => by
    rw [idxO]
    by_cases h : x = o
    · subst h; rw [if_pos rfl]; simp
    · rw [if_neg h, idxO_any o l (k + 1)]
      have : (o ∈ x :: l) = (o ∈ l) := by
        rw [List.mem_cons]
        exact propext ⟨fun h' => h'.elim (fun e => absurd e.symm h) id, .inr⟩
      simp only [this]
def sIdxO : FSpec := lentSpec 1 (List (List Int) × List Int) (fun (L, _) => [.c (slC 1 rowE L), .c (.fn 28 [.ptr 0 0])]) (fun (_, o) => [.row 36 [intsS o]]) (fun (L, _) => Rows5 L) (fun (L, o) => .i (idxO o L 0)) fun (_, o) => [.row 36 [intsS o]]
set_option maxHeartbeats 4000000 in
set_option maxRecDepth 100000 in
theorem idxO_ok : Meets Tryd.prog 51 sIdxO := by
  refine meets_lent 1 (gok_cons canF_ok (gok_nil _) : GOK Tryd.prog (tab [(28, sCanF)])) rfl [] (fn := Tryd.f51) rfl rfl rfl (by decide) (fun _ => rfl) (fun _ => rfl) (by decide) fun ⟨L, o⟩ h => ?_
  obtain ⟨hL, hb⟩ : L.length ≤ 5000000000 ∧ ∀ i, (L.getD i default).length ≤ 1000000 := h
  repeat' (first | exact @id (emp _ = true) | (intro h; first | exact Bool.noConfusion h | (simp only [Qn] at h) | skip) | ((conv => whnf) <;> (first | exact trivial | apply Qa | apply And.intro | apply Qb | apply Qc | apply Qd | apply Qe | apply Qf | apply Qg | apply Qh | apply Qi | exact QA | exact QP | refine QG ?_ | apply Qj | apply Qk | apply Ql | apply Qm | apply Qo | apply Qp | apply Qw | apply Qv | apply Qu | apply Qt | apply Qs | apply Qr | apply Qq | apply Qx | apply wrapS | apply Qy | (with_reducible exact lenNil) | apply Eq.refl)) | ((with_reducible first | apply Y1 | apply Y2 | apply Y3 | show blkEq _ _ _); conv => whnf))
  apply LoopP.up (G := Nat) (fun k => k ≤ L.length ∧ idxO o L 0 = idxO o (L.drop k) k) [0, 1, 7, 8] (fun k => [(8, .i k)]) (fun _ => []) 1 (fun k => L.length - k)
  apply And.intro
  · refine CutE.at 0 ?_
    repeat' (first | exact @id (emp _ = true) | (intro h; first | exact Bool.noConfusion h | (simp only [Qn] at h) | skip) | ((conv => whnf) <;> (first | exact trivial | apply Qa | apply And.intro | apply Qb | apply Qc | apply Qd | apply Qe | apply Qf | apply Qg | apply Qh | apply Qi | exact QA | exact QP | refine QG ?_ | apply Qj | apply Qk | apply Ql | apply Qm | apply Qo | apply Qp | apply Qw | apply Qv | apply Qu | apply Qt | apply Qs | apply Qr | apply Qq | apply Qx | apply wrapS | apply Qy | (with_reducible exact lenNil) | apply Eq.refl)) | ((with_reducible first | apply Y1 | apply Y2 | apply Y3 | show blkEq _ _ _); conv => whnf))
    all_goals try simp only [Int.toNat_natCast, Int.toNat_zero, ge_iff_le, gt_iff_lt, Int.ofNat_le, Int.ofNat_lt, Int.ofNat_inj] at *
    all_goals first
      | omega
      | (dsimp only; omega)
      | assumption
      | exact Up.zero _
      | (show ((8 : Nat) : Int) * _ ≤ _; omega)
      | (show _ * (8 : Nat) ≤ _; omega)
      | (show _ * (16 : Nat) ≤ _; omega)
      | (show _ * (24 : Nat) ≤ _; omega)
      | trace_state
  intro k ⟨hk, hI⟩
  have hs : k < L.length → idxO o (L.drop k) k = if L.getD k default = o then (k : Int) else idxO o (L.drop (k + 1)) (k + 1) := fun h => by rw [drop_getD (d := default) h, idxO]
  repeat' (first | exact @id (emp _ = true) | (intro h; first | exact Bool.noConfusion h | (simp only [Qn] at h) | skip) | ((conv => whnf) <;> (first | exact trivial | apply Qa | apply And.intro | refine CutE.at (A := Nat) (k + 1) ?_ | apply Qb | apply Qc | apply Qd | apply Qe | apply Qf | apply Qg | apply Qh | apply Qi | exact QA | exact QP | refine QG ?_ | apply Qj | apply Qk | apply Ql | apply Qm | apply Qo | apply Qp | apply Qw | apply Qv | apply Qu | apply Qt | apply Qs | apply Qr | apply Qq | apply Qx | apply wrapS | apply Qy | (with_reducible exact lenNil) | apply Eq.refl)) | ((with_reducible first | apply Y1 | apply Y2 | apply Y3 | show blkEq _ _ _); conv => whnf))
  all_goals try simp only [Int.toNat_natCast] at *
  all_goals first
    | omega
    | exact hb _
    | (rw [hI, hs (by omega), if_pos (by assumption)]; done)
    | (rw [hI, hs (by omega), if_neg (by assumption)]; done)
    | (rw [hI, List.drop_eq_nil_of_le (by omega)]; rfl)
    | trace_state
def sContO : FSpec := lentSpec 1 (List (List Int) × List Int) (fun (L, _) => [.c (slC 1 rowE L), .c (.fn 28 [.ptr 0 0])]) (fun (_, o) => [.row 36 [intsS o]]) (fun (L, _) => Rows5 L) (fun (L, o) => .b (decide (o ∈ L))) fun (_, o) => [.row 36 [intsS o]]
set_option maxHeartbeats 4000000 in
set_option maxRecDepth 100000 in
theorem contO_ok : Meets Tryd.prog 27 sContO := by
  refine meets_lent 1 (gok_cons idxO_ok (gok_nil _) : GOK Tryd.prog (tab [(51, sIdxO)])) rfl [] (fn := Tryd.f27) rfl rfl rfl (by decide) (fun _ => rfl) (fun _ => rfl) (by decide) fun ⟨L, o⟩ h => ?_
  have hR : Rows5 L := h
  have hi := idxO_any o L 0
  repeat' (first | exact @id (emp _ = true) | (intro h; first | exact Bool.noConfusion h | (simp only [Qn] at h) | skip) | ((conv => whnf) <;> (first | exact trivial | apply Qa | apply And.intro | apply Qb | apply Qc | apply Qd | apply Qe | apply Qf | apply Qg | apply Qh | apply Qi | exact QA | exact QP | refine QG ?_ | apply Qj | apply Qk | apply Ql | apply Qm | apply Qo | apply Qp | apply Qw | apply Qv | apply Qu | apply Qt | apply Qs | apply Qr | apply Qq | apply Qx | apply wrapS | apply Qy | (with_reducible exact lenNil) | apply Eq.refl)) | ((with_reducible first | apply Y1 | apply Y2 | apply Y3 | show blkEq _ _ _); conv => whnf))
  all_goals first
    | exact hR.1
    | exact hR.2 _
    | exact hi.symm
    | trace_state
end Go.Eng
