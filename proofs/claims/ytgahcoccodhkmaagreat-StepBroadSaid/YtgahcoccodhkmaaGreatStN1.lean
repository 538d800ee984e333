/- A part of the walks, and of the machine that proves them (StN1). -/
import Derived.Test.YtgahcoccodhkmaaGreatStE
import Derived.Test.YtgahcoccodhkmaaGreatTsB
set_option linter.unusedVariables false
set_option linter.unusedSimpArgs false
namespace Go.Eng
open Go Go.Proofs
def thAt (p : Int) : Th := ⟨p, 0, 0, 0, 0, 0, 0, 0, 0, [], 0, 0, []⟩
def newW (code : List Ins) (st ws ts : List Int) (d : Int) : Wd := ⟨code, ws, ts, d, List.replicate st.length [], st.map thAt, []⟩
def sNew8 : FSpec := spec (List Ins × List Int × List Int × List Int × Int) (fun (code, st, ws, ts, d) => [.c (codeS code), .c (intsS st), .agg (memC ws ts), .i d]) (fun (_, st, _, _, _) => 1 ≤ st.length ∧ st.length ≤ 8) fun (code, st, ws, ts, d) => .s (rWd (newW code st ws ts d))
def Na1 : List (Nat × FSpec) := [(47, sRTNew)]
theorem Na1_ok : GOK Tryz.prog (tab Na1) := gok_cons rtnew_ok (gok_nil _)
theorem map_take1 {l : List Int} {k : Nat} (hk : k < l.length) : (l.map thAt).take (k + 1) = (l.map thAt).take k ++ [thAt (l.getD k default)] := by
  rw [take_getD (d := default) (by simpa using hk)]
  simp [List.getD_eq_getElem?_getD, List.getElem?_map, List.getElem?_eq_getElem hk]
set_option maxHeartbeats 4000000 in
set_option maxRecDepth 100000 in
theorem new8_ok : Meets Tryz.prog 21 sNew8 := by
  refine meets_plain Na1_ok rfl [] (fn := Tryz.f21) rfl rfl rfl (by decide) fun ⟨code, st, ws, ts, d⟩ hn => ?_
  have hn : 1 ≤ st.length ∧ st.length ≤ 8 := hn
  have hml : (st.map thAt).length = st.length := List.length_map _
  repeat' (first | exact @id (emp _ = true) | (intro h; first | exact Bool.noConfusion h | (simp only [Qn] at h) | skip) | ((conv => whnf) <;> (first | exact trivial | apply Qa | apply And.intro | apply Qb | apply Qc | apply Qd | apply Qe | apply Qf | apply Qg | apply Qh | apply Qi | exact QA | exact QP | refine QG ?_ | apply Qj | apply Qk | apply Ql | apply Qm | apply Qo | apply Qp | apply Qw | apply Qv | apply Qu | apply Qt | apply Qs | apply Qr | apply Qq | apply Qx | apply wrapS | apply Qy | (with_reducible exact lenNil) | apply Eq.refl)) | ((with_reducible first | apply Y1 | apply Y2 | apply Y3 | show blkEq _ _ _); conv => whnf))
  all_goals try omega
  apply LoopP.up (G := Nat) (fun k => k ≤ st.length) [8, 9, 19, 20, 21] (fun k => [(21, .i k)]) (fun k => [(2, .row 33 [codeS code, intsS ws, intsS ts, .i d, bufsS (List.replicate st.length []), .osl 3, .v (.slice none 0 0)]), (3, .slc 44 13 k (slG (thE true) ((st.map thAt).take k)))]) 4 (fun k => st.length - k)
  apply And.intro
  · refine CutE.at 0 ⟨EntP.at [⟨true, 2, 5, 44, 13⟩] [0, 1, 2, 3] ?_, ?_⟩
    all_goals repeat' (first | exact @id (emp _ = true) | (intro h; first | exact Bool.noConfusion h | (simp only [Qn] at h) | skip) | ((conv => whnf) <;> (first | exact trivial | apply Qa | apply And.intro | apply Qb | apply Qc | apply Qd | apply Qe | apply Qf | apply Qg | apply Qh | apply Qi | exact QA | exact QP | refine QG ?_ | apply Qj | apply Qk | apply Ql | apply Qm | apply Qo | apply Qp | apply Qw | apply Qv | apply Qu | apply Qt | apply Qs | apply Qr | apply Qq | apply Qx | apply wrapS | apply Qy | (with_reducible exact lenNil) | apply Eq.refl)) | ((with_reducible first | apply Y1 | apply Y2 | apply Y3 | show blkEq _ _ _); conv => whnf))
    all_goals try simp only [Int.toNat_natCast, Int.toNat_zero, ge_iff_le, gt_iff_lt, Int.ofNat_le, Int.ofNat_lt, Int.ofNat_inj] at *
    all_goals first
      | omega
      | (dsimp only; omega)
      | assumption
      | exact Up.zero _
      | (show ((8 : Nat) : Int) * _ ≤ _; omega)
      | (show _ * (8 : Nat) ≤ _; omega)
      | (show _ * (16 : Nat) ≤ _; omega)
      | (show _ * (24 : Nat) ≤ _; omega)
      | trace_state
  · intro k hk
    repeat' (first | exact @id (emp _ = true) | (intro h; first | exact Bool.noConfusion h | (simp only [Qn] at h) | skip) | ((conv => whnf) <;> (first | exact trivial | apply Qa | apply And.intro | refine CutE.at (A := Nat) (k + 1) ?_ | refine NilS.at 9 5 false (slG encFr []) ?_ | refine NilS.at 12 1 true (slG encI []) ?_ | (refine EntP.at (n := 4) [] [0, 1, 2, 5] ?_) | apply Qb | apply Qc | apply Qd | apply Qe | apply Qf | apply Qg | apply Qh | apply Qi | exact QA | exact QP | refine QG ?_ | apply Qj | apply Qk | apply Ql | apply Qm | apply Qo | apply Qp | apply Qw | apply Qv | apply Qu | apply Qt | apply Qs | apply Qr | apply Qq | apply Qx | apply wrapS | apply Qy | (with_reducible exact lenNil) | apply Eq.refl)) | ((with_reducible first | apply Y1 | apply Y2 | apply Y3 | show blkEq _ _ _); conv => whnf))
    all_goals try simp only [Int.toNat_natCast, Int.ofNat_lt] at *
    all_goals first
      | omega
      | (show (k + 1) * 136 ≤ _; omega)
      | (show st.length - (k + 1) < st.length - k; omega)
      | (show k + 1 ≤ st.length; omega)
      | (rw [map_take1 (by omega)]; exact (slG_snoc (enc := thE true) (k := 13) (x := thAt (st.getD k default)) (by rw [List.length_take]; omega) rfl _ (by assumption) _ (by assumption)).symm)
      | (show (st.map thAt).length = k; omega)
      | (show slG (thE true) (st.map thAt) _ _ = _; rw [List.take_of_length_le (by omega)])
      | trace_state
end Go.Eng
namespace Go.Eng
open Go Go.Proofs
def badS (n : Nat) (s : Int) : Bool := decide (s < 0 ∨ s > n)
def newP (code : List Ins) (st ws ts : List Int) (d : Int) : Wd × Int :=
  if codeR code = true ∧ memR ws ts = true then (if sizesF st.length d = true then (if st.any (badS code.length) = true then (wd0, 3) else (newW code st ws ts d, 0)) else (wd0, 2)) else (wd0, 1)
def rWdE' (p : Wd × Int) : RV := .tup [rWd p.1, .c (.i p.2)]
def sNewP : FSpec := spec (List Ins × List Int × List Int × List Int × Int) (fun (code, st, ws, ts, d) => [.c (codeS code), .c (intsS st), .agg (memC ws ts), .i d]) (fun _ => True) fun (code, st, ws, ts, d) => rWdE' (newP code st ws ts d)
def Nb1 : List (Nat × FSpec) := [(37, sCodeR), (43, sMemRight), (44, sTNew)]
theorem Nb1_ok : GOK Tryz.prog (tab Nb1) := gok_cons codeR_ok (gok_cons memRight_ok (gok_cons tnew_ok (gok_nil _)))
set_option maxHeartbeats 4000000 in
set_option maxRecDepth 100000 in
theorem newP_ok : Meets Tryz.prog 17 sNewP := by
  refine meets_plain Nb1_ok rfl [] (fn := Tryz.f17) rfl rfl rfl (by decide) fun ⟨code, st, ws, ts, d⟩ _ => ?_
  by_cases h1 : codeR code = true ∧ memR ws ts = true
  rotate_left 1
  · have e1 : sNewP.res (code, st, ws, ts, d) = rWdE' (wd0, 1) := by show rWdE' (newP _ _ _ _ _) = _; unfold newP; rw [if_neg h1]
    show bodyK Tryz.prog _ _ _ _ sNewP _
    unfold bodyK retE
    rw [e1]
    clear e1
    repeat' (first | exact @id (emp _ = true) | (intro h; first | exact Bool.noConfusion h | (simp only [Qn] at h) | skip) | ((conv => whnf) <;> (first | exact trivial | apply Qa | apply And.intro | apply Qb | apply Qc | apply Qd | apply Qe | apply Qf | apply Qg | apply Qh | apply Qi | exact QA | exact QP | refine QG ?_ | apply Qj | apply Qk | apply Ql | apply Qm | apply Qo | apply Qp | apply Qw | apply Qv | apply Qu | apply Qt | apply Qs | apply Qr | apply Qq | apply Qx | apply wrapS | apply Qy | (with_reducible exact lenNil) | apply Eq.refl)) | ((with_reducible first | apply Y1 | apply Y2 | apply Y3 | show blkEq _ _ _); conv => whnf))
    all_goals first
      | exact absurd ⟨by assumption, by assumption⟩ h1
      | trace_state
  have eN : newT ws ts st.length d = if sizesF st.length d = true then ((ws, ts, d, List.replicate st.length []), 0) else (tso0, 2) := by unfold newT; rw [if_pos h1.2]; rfl
  by_cases h2 : sizesF st.length d = true
  rotate_left 1
  · rw [if_neg h2] at eN
    have hne : ¬ (newT ws ts st.length d).2 = 0 := by rw [eN]; decide
    have e1 : sNewP.res (code, st, ws, ts, d) = rWdE' (wd0, (newT ws ts st.length d).2) := by show rWdE' (newP _ _ _ _ _) = _; unfold newP; rw [if_pos h1, if_neg h2, eN]
    show bodyK Tryz.prog _ _ _ _ sNewP _
    unfold bodyK retE
    rw [e1]
    clear e1 eN
    repeat' (first | exact @id (emp _ = true) | (intro h; first | exact Bool.noConfusion h | (simp only [Qn] at h) | skip) | ((conv => whnf) <;> (first | exact trivial | apply Qa | apply And.intro | exact absurd (by assumption) hne | apply Qb | apply Qc | apply Qd | apply Qe | apply Qf | apply Qg | apply Qh | apply Qi | exact QA | exact QP | refine QG ?_ | apply Qj | apply Qk | apply Ql | apply Qm | apply Qo | apply Qp | apply Qw | apply Qv | apply Qu | apply Qt | apply Qs | apply Qr | apply Qq | apply Qx | apply wrapS | apply Qy | (with_reducible exact lenNil) | apply Eq.refl)) | ((with_reducible first | apply Y1 | apply Y2 | apply Y3 | show blkEq _ _ _); conv => whnf))
    all_goals first
      | (exfalso; exact Bool.noConfusion (h1.1.symm.trans (by assumption)))
      | (exfalso; exact Bool.noConfusion (h1.2.symm.trans (by assumption)))
      | trace_state
  rw [if_pos h2] at eN
  have hsz := sizesF_iff.1 h2
  have hml : (st.map thAt).length = st.length := List.length_map _
  by_cases h3 : st.any (badS code.length) = true
  · have e1 : sNewP.res (code, st, ws, ts, d) = rWdE' (wd0, 3) := by show rWdE' (newP _ _ _ _ _) = _; unfold newP; rw [if_pos h1, if_pos h2, if_pos h3]
    show bodyK Tryz.prog _ _ _ _ sNewP _
    unfold bodyK retE
    rw [e1]
    clear e1
    repeat' (first | exact @id (emp _ = true) | (intro h; first | exact Bool.noConfusion h | (simp only [Qn] at h) | skip) | ((conv => whnf) <;> (first | exact trivial | apply Qa | apply And.intro | apply Qb | apply Qc | apply Qd | apply Qe | apply Qf | apply Qg | apply Qh | apply Qi | exact QA | exact QP | refine QG ?_ | apply Qj | apply Qk | apply Ql | apply Qm | apply Qo | apply Qp | apply Qw | apply Qv | apply Qu | apply Qt | apply Qs | apply Qr | apply Qq | apply Qx | apply wrapS | apply Qy | (with_reducible exact lenNil) | apply Eq.refl)) | ((with_reducible first | apply Y1 | apply Y2 | apply Y3 | show blkEq _ _ _); conv => whnf))
    all_goals try first
      | (exfalso; exact Bool.noConfusion (h1.1.symm.trans (by assumption)))
      | (exfalso; exact Bool.noConfusion (h1.2.symm.trans (by assumption)))
      | (exfalso; simp only [eN] at *; contradiction)
    rw [eN]
    apply LoopP.up (G := Nat) (fun k => k ≤ st.length ∧ Up k fun j => badS code.length (st.getD j default) = false) [0, 8, 12, 39, 40, 41] (fun k => [(41, .i k)]) (fun k => [(3, .row 33 [codeS code, intsS ws, intsS ts, .i d, bufsS (List.replicate st.length []), .osl 4, .v (.slice none 0 0)]), (4, .slc 44 13 k (slG (thE true) ((st.map thAt).take k)))]) 5 (fun k => st.length - k)
    apply And.intro
    · refine CutE.at 0 ⟨EntP.at [⟨true, 3, 5, 44, 13⟩] [0, 1, 2, 3, 4] ?_, ?_⟩
      all_goals repeat' (first | exact @id (emp _ = true) | (intro h; first | exact Bool.noConfusion h | (simp only [Qn] at h) | skip) | ((conv => whnf) <;> (first | exact trivial | apply Qa | apply And.intro | apply Qb | apply Qc | apply Qd | apply Qe | apply Qf | apply Qg | apply Qh | apply Qi | exact QA | exact QP | refine QG ?_ | apply Qj | apply Qk | apply Ql | apply Qm | apply Qo | apply Qp | apply Qw | apply Qv | apply Qu | apply Qt | apply Qs | apply Qr | apply Qq | apply Qx | apply wrapS | apply Qy | (with_reducible exact lenNil) | apply Eq.refl)) | ((with_reducible first | apply Y1 | apply Y2 | apply Y3 | show blkEq _ _ _); conv => whnf))
      all_goals try simp only [Int.toNat_natCast, Int.toNat_zero, ge_iff_le, gt_iff_lt, Int.ofNat_le, Int.ofNat_lt, Int.ofNat_inj] at *
      all_goals first
        | omega
        | (dsimp only; omega)
        | assumption
        | exact Up.zero _
        | (show ((8 : Nat) : Int) * _ ≤ _; omega)
        | (show _ * (8 : Nat) ≤ _; omega)
        | (show _ * (16 : Nat) ≤ _; omega)
        | (show _ * (24 : Nat) ≤ _; omega)
        | trace_state
    · intro k ⟨hk, hu⟩
      have hend : k = st.length → False := fun h => by
        obtain ⟨x, hx, hb⟩ := List.any_eq_true.1 h3
        obtain ⟨j, hj, rfl⟩ := List.getElem_of_mem hx
        have := hu.get j (by omega)
        rw [List.getD_eq_getElem?_getD, List.getElem?_eq_getElem hj] at this
        exact Bool.noConfusion (hb.symm.trans this)
      repeat' (first | exact @id (emp _ = true) | (intro h; first | exact Bool.noConfusion h | (simp only [Qn] at h) | skip) | ((conv => whnf) <;> (first | exact trivial | apply Qa | apply And.intro | refine CutE.at (A := Nat) (k + 1) ?_ | refine NilS.at 9 5 false (slG encFr []) ?_ | refine NilS.at 12 1 true (slG encI []) ?_ | (refine EntP.at (n := 5) [] [0, 1, 2, 3, 6] ?_) | apply Qb | apply Qc | apply Qd | apply Qe | apply Qf | apply Qg | apply Qh | apply Qi | exact QA | exact QP | refine QG ?_ | apply Qj | apply Qk | apply Ql | apply Qm | apply Qo | apply Qp | apply Qw | apply Qv | apply Qu | apply Qt | apply Qs | apply Qr | apply Qq | apply Qx | apply wrapS | apply Qy | (with_reducible exact lenNil) | apply Eq.refl)) | ((with_reducible first | apply Y1 | apply Y2 | apply Y3 | show blkEq _ _ _); conv => whnf))
      all_goals try simp only [Int.toNat_natCast, Int.ofNat_lt] at *
      all_goals first
        | omega
        | (show (k + 1) * 136 ≤ _; omega)
        | (show st.length - (k + 1) < st.length - k; omega)
        | (show k + 1 ≤ st.length; omega)
        | (rw [map_take1 (by omega)]; exact (slG_snoc (enc := thE true) (k := 13) (x := thAt (st.getD k default)) (by rw [List.length_take]; omega) rfl _ (by assumption) _ (by assumption)).symm)
        | (show (st.map thAt).length = k; omega)
        | exact hu.succ (decide_eq_false (by omega))
        | (show slG (thE true) (st.map thAt) _ _ = _; rw [List.take_of_length_le (by omega)])
        | (exfalso; exact hend (by omega))
        | trace_state
  · have e1 : sNewP.res (code, st, ws, ts, d) = rWdE' (newW code st ws ts d, 0) := by show rWdE' (newP _ _ _ _ _) = _; unfold newP; rw [if_pos h1, if_pos h2, if_neg h3]
    show bodyK Tryz.prog _ _ _ _ sNewP _
    unfold bodyK retE
    rw [e1]
    clear e1
    repeat' (first | exact @id (emp _ = true) | (intro h; first | exact Bool.noConfusion h | (simp only [Qn] at h) | skip) | ((conv => whnf) <;> (first | exact trivial | apply Qa | apply And.intro | apply Qb | apply Qc | apply Qd | apply Qe | apply Qf | apply Qg | apply Qh | apply Qi | exact QA | exact QP | refine QG ?_ | apply Qj | apply Qk | apply Ql | apply Qm | apply Qo | apply Qp | apply Qw | apply Qv | apply Qu | apply Qt | apply Qs | apply Qr | apply Qq | apply Qx | apply wrapS | apply Qy | (with_reducible exact lenNil) | apply Eq.refl)) | ((with_reducible first | apply Y1 | apply Y2 | apply Y3 | show blkEq _ _ _); conv => whnf))
    all_goals try first
      | (exfalso; exact Bool.noConfusion (h1.1.symm.trans (by assumption)))
      | (exfalso; exact Bool.noConfusion (h1.2.symm.trans (by assumption)))
      | (exfalso; simp only [eN] at *; contradiction)
    rw [eN]
    apply LoopP.up (G := Nat) (fun k => k ≤ st.length ∧ Up k fun j => badS code.length (st.getD j default) = false) [0, 8, 12, 39, 40, 41] (fun k => [(41, .i k)]) (fun k => [(3, .row 33 [codeS code, intsS ws, intsS ts, .i d, bufsS (List.replicate st.length []), .osl 4, .v (.slice none 0 0)]), (4, .slc 44 13 k (slG (thE true) ((st.map thAt).take k)))]) 5 (fun k => st.length - k)
    apply And.intro
    · refine CutE.at 0 ⟨EntP.at [⟨true, 3, 5, 44, 13⟩] [0, 1, 2, 3, 4] ?_, ?_⟩
      all_goals repeat' (first | exact @id (emp _ = true) | (intro h; first | exact Bool.noConfusion h | (simp only [Qn] at h) | skip) | ((conv => whnf) <;> (first | exact trivial | apply Qa | apply And.intro | apply Qb | apply Qc | apply Qd | apply Qe | apply Qf | apply Qg | apply Qh | apply Qi | exact QA | exact QP | refine QG ?_ | apply Qj | apply Qk | apply Ql | apply Qm | apply Qo | apply Qp | apply Qw | apply Qv | apply Qu | apply Qt | apply Qs | apply Qr | apply Qq | apply Qx | apply wrapS | apply Qy | (with_reducible exact lenNil) | apply Eq.refl)) | ((with_reducible first | apply Y1 | apply Y2 | apply Y3 | show blkEq _ _ _); conv => whnf))
      all_goals try simp only [Int.toNat_natCast, Int.toNat_zero, ge_iff_le, gt_iff_lt, Int.ofNat_le, Int.ofNat_lt, Int.ofNat_inj] at *
      all_goals first
        | omega
        | (dsimp only; omega)
        | assumption
        | exact Up.zero _
        | (show ((8 : Nat) : Int) * _ ≤ _; omega)
        | (show _ * (8 : Nat) ≤ _; omega)
        | (show _ * (16 : Nat) ≤ _; omega)
        | (show _ * (24 : Nat) ≤ _; omega)
        | trace_state
    · intro k ⟨hk, hu⟩
      have hgood : k < st.length → ¬ (st.getD k default < 0 ∨ st.getD k default > code.length) := fun h hb => h3 (List.any_eq_true.2 ⟨_, List.getElem_mem h, by rw [List.getD_eq_getElem?_getD, List.getElem?_eq_getElem h] at hb; exact decide_eq_true hb⟩)
      repeat' (first | exact @id (emp _ = true) | (intro h; first | exact Bool.noConfusion h | (simp only [Qn] at h) | skip) | ((conv => whnf) <;> (first | exact trivial | apply Qa | apply And.intro | refine CutE.at (A := Nat) (k + 1) ?_ | refine NilS.at 9 5 false (slG encFr []) ?_ | refine NilS.at 12 1 true (slG encI []) ?_ | (refine EntP.at (n := 5) [] [0, 1, 2, 3, 6] ?_) | apply Qb | apply Qc | apply Qd | apply Qe | apply Qf | apply Qg | apply Qh | apply Qi | exact QA | exact QP | refine QG ?_ | apply Qj | apply Qk | apply Ql | apply Qm | apply Qo | apply Qp | apply Qw | apply Qv | apply Qu | apply Qt | apply Qs | apply Qr | apply Qq | apply Qx | apply wrapS | apply Qy | (with_reducible exact lenNil) | apply Eq.refl)) | ((with_reducible first | apply Y1 | apply Y2 | apply Y3 | show blkEq _ _ _); conv => whnf))
      all_goals try simp only [Int.toNat_natCast, Int.ofNat_lt] at *
      all_goals first
        | omega
        | (show (k + 1) * 136 ≤ _; omega)
        | (show st.length - (k + 1) < st.length - k; omega)
        | (show k + 1 ≤ st.length; omega)
        | (rw [map_take1 (by omega)]; exact (slG_snoc (enc := thE true) (k := 13) (x := thAt (st.getD k default)) (by rw [List.length_take]; omega) rfl _ (by assumption) _ (by assumption)).symm)
        | (show (st.map thAt).length = k; omega)
        | exact hu.succ (decide_eq_false (by omega))
        | (show slG (thE true) (st.map thAt) _ _ = _; rw [List.take_of_length_le (by omega)])
        | (exfalso; exact hgood (by omega) (.inl (by assumption)))
        | (exfalso; exact hgood (by omega) (.inr (by assumption)))
        | trace_state
end Go.Eng
