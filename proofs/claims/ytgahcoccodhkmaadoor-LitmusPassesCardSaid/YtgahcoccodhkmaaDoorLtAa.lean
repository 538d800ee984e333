/- A part of the walks, and of the machine that proves them (LtAa). -/
import Derived.Test.YtgahcoccodhkmaaDoorLtOc
import Derived.Test.YtgahcoccodhkmaaDoorMeB
import Derived.Test.YtgahcoccodhkmaaDoorLtR
import Derived.Test.YtgahcoccodhkmaaDoorEngC
set_option linter.unusedVariables false
set_option linter.unusedSimpArgs false
namespace Go.Eng
open Go Go.Proofs
theorem CutE.goL {A B C D : Type} {p : A × B × C × D → Prop} {a : A} {b : B} {c : C} {d : D} (h : p (a, b, c, d)) : CutE (A × B × C × D) p := ⟨⟨_, h⟩⟩
noncomputable def sCan : FSpec := spec (Int × Int × List (List Mv) × List Int) (fun (w, d, ms, o) => [.agg (litC w d ms), .c (intsS o)]) (fun (_, _, ms, _) => Short ms) fun (w, d, ms, o) => .tup [.c (.b (decide (o ∈ outF w d ms))), .c (.i (errF w d ms))]
theorem outF_rows5 (w d : Int) (ms : List (List Mv)) : Rows5 (outF w d ms) := rows5 (by have := (outF_rows w d ms).1; omega) (outF_rows w d ms).2
set_option maxHeartbeats 4000000 in
set_option maxRecDepth 100000 in
theorem can_ok : Meets Tryd.prog 12 sCan := by
  refine meets_plain (gok_cons out_ok (gok_cons contO_ok (gok_nil _)) : GOK Tryd.prog (tab [(8, sOut), (27, sContO)])) rfl [2] (fn := Tryd.f12) rfl rfl rfl (by decide) fun ⟨w, d, ms, o⟩ hs => ?_
  have hs : Short ms := hs
  have h5 := outF_rows5 w d ms
  repeat' (first | exact @id (emp _ = true) | (intro h; first | exact Bool.noConfusion h | (simp only [Qn] at h) | skip) | ((conv => whnf) <;> (first | exact trivial | apply Qa | apply And.intro | apply Qb | apply Qc | apply Qd | apply Qe | apply Qf | apply Qg | apply Qh | apply Qi | exact QA | exact QP | refine QG ?_ | apply Qj | apply Qk | apply Ql | apply Qm | apply Qo | apply Qp | apply Qw | apply Qv | apply Qu | apply Qt | apply Qs | apply Qr | apply Qq | apply Qx | apply wrapS | apply Qy | (with_reducible exact lenNil) | apply Eq.refl)) | ((with_reducible first | apply Y1 | apply Y2 | apply Y3 | show blkEq _ _ _); conv => whnf))
  (conv => whnf)
  obtain ⟨L, hL⟩ : ∃ L, L = outF w d ms := ⟨_, rfl⟩
  apply CutP.to (G := Unit) (fun _ => True) [3, 6, 7] (fun _ => [(6, .s (.c (slC 1 rowE L))), (7, .i (errF w d ms)), (3, .s (.c (.ptr 0 0)))]) (fun _ => [(0, .row 36 [intsS o])]) 1
  apply And.intro
  · subst hL
    repeat' (first | exact @id (emp _ = true) | (intro h; first | exact Bool.noConfusion h | (simp only [Qn] at h) | skip) | ((conv => whnf) <;> (first | exact trivial | apply Qa | apply And.intro | apply Qb | apply Qc | apply Qd | apply Qe | apply Qf | apply Qg | apply Qh | apply Qi | exact QA | exact QP | refine QG ?_ | apply Qj | apply Qk | apply Ql | apply Qm | apply Qo | apply Qp | apply Qw | apply Qv | apply Qu | apply Qt | apply Qs | apply Qr | apply Qq | apply Qx | apply wrapS | apply Qy | (with_reducible exact lenNil) | apply Eq.refl)) | ((with_reducible first | apply Y1 | apply Y2 | apply Y3 | show blkEq _ _ _); conv => whnf))
    all_goals first
      | exact hs _
      | trace_state
  rintro ⟨⟩ _
  rw [← hL] at h5
  have hd : decide (o ∈ outF w d ms) = decide (o ∈ L) := by rw [hL]
  repeat' (first | exact @id (emp _ = true) | (intro h; first | exact Bool.noConfusion h | (simp only [Qn] at h) | skip) | ((conv => whnf) <;> (first | exact trivial | apply Qa | apply And.intro | apply Qb | apply Qc | apply Qd | apply Qe | apply Qf | apply Qg | apply Qh | apply Qi | exact QA | exact QP | refine QG ?_ | apply Qj | apply Qk | apply Ql | apply Qm | apply Qo | apply Qp | apply Qw | apply Qv | apply Qu | apply Qt | apply Qs | apply Qr | apply Qq | apply Qx | apply wrapS | apply Qy | (with_reducible exact lenNil) | apply Eq.refl)) | ((with_reducible first | apply Y1 | apply Y2 | apply Y3 | show blkEq _ _ _); conv => whnf))
  all_goals first
    | exact h5.1
    | exact h5.2 _
    | exact hd
    | trace_state
/-- A test of the first four threads, of each the first eight moves. -/
def cutT (ms : List (List Mv)) : List (List Mv) := (ms.take 4).map (List.take 8)
theorem cutT_short (ms : List (List Mv)) : Short (cutT ms) := fun i => by
  unfold cutT
  rw [List.getD_eq_getElem?_getD, List.getElem?_map]
  cases (ms.take 4)[i]? with
  | none => exact Nat.zero_le _
  | some l => show (l.take 8).length ≤ 1000; rw [List.length_take]; omega
def sTest : FSpec := spec (Int × Int × List (List Mv)) (fun (w, d, ms) => [.i w, .i d, .c (slC 1 mvsE ms)]) (fun _ => True) fun (w, d, ms) => .agg (litC w d (cutT ms))
theorem cut_takeS {ms : List (List Mv)} {k : Nat} (hk : k < (ms.take 4).length) : (cutT ms).take (k + 1) = (cutT ms).take k ++ [((ms.take 4).getD k default).take 8] := by
  unfold cutT
  rw [take_getD (d := default) (by rw [List.length_map]; exact hk)]
  congr 1
  rw [List.getD_eq_getElem?_getD, List.getElem?_map, List.getD_eq_getElem?_getD, List.getElem?_eq_getElem hk]
  rfl
set_option maxHeartbeats 4000000 in
set_option maxRecDepth 100000 in
theorem test_ok : Meets Tryd.prog 7 sTest := by
  refine meets_plain (gok_nil _) rfl [] (fn := Tryd.f7) rfl rfl rfl (by decide) fun ⟨w, d, ms⟩ _ => ?_
  have hl : (ms.take 4).length ≤ 4 := List.length_take_le _ _
  have hlm : (cutT ms).length = (ms.take 4).length := List.length_map _
  repeat' (first | exact @id (emp _ = true) | (intro h; first | exact Bool.noConfusion h | (simp only [Qn] at h) | skip) | ((conv => whnf) <;> (first | exact trivial | apply Qa | apply And.intro | apply Qb | apply Qc | apply Qd | apply Qe | apply Qf | apply Qg | apply Qh | apply Qi | exact QA | exact QP | refine QG ?_ | apply Qj | apply Qk | apply Ql | apply Qm | apply Qo | apply Qp | apply Qw | apply Qv | apply Qu | apply Qt | apply Qs | apply Qr | apply Qq | apply Qx | apply wrapS | apply Qy | (with_reducible exact lenNil) | apply Eq.refl)) | ((with_reducible first | apply Y1 | apply Y2 | apply Y3 | show blkEq _ _ _); conv => whnf))
  all_goals try first
    | omega
    | exact take_lo (m := 4)
    | exact take_hi (m := 4)
  apply LoopP.to (G := Nat) (fun k => k ≤ (ms.take 4).length) [6, 7, 17, 18, 19] (fun k => [(17, .s (.c (slC 1 mvsE (ms.take 4)))), (18, .s (.c (.i (ms.take 4).length))), (19, .i k)])
    (fun k => [(0, .row 24 [.i 0, .i 0, .v (.slice none 0 0)]), (1, .row 24 [.i w, .i d, .osl 2]), (2, .slc 26 1 k (slG mvsE ((cutT ms).take k)))]) 3 (fun k => (ms.take 4).length - k)
  apply And.intro
  · refine CutE.at 0 ⟨EntP.at [⟨true, 1, 2, 26, 1⟩] [0, 1, 2] ?_, ?_⟩
    all_goals repeat' (first | exact @id (emp _ = true) | (intro h; first | exact Bool.noConfusion h | (simp only [Qn] at h) | skip) | ((conv => whnf) <;> (first | exact trivial | apply Qa | apply And.intro | apply Qb | apply Qc | apply Qd | apply Qe | apply Qf | apply Qg | apply Qh | apply Qi | exact QA | exact QP | refine QG ?_ | apply Qj | apply Qk | apply Ql | apply Qm | apply Qo | apply Qp | apply Qw | apply Qv | apply Qu | apply Qt | apply Qs | apply Qr | apply Qq | apply Qx | apply wrapS | apply Qy | (with_reducible exact lenNil) | apply Eq.refl)) | ((with_reducible first | apply Y1 | apply Y2 | apply Y3 | show blkEq _ _ _); conv => whnf))
    all_goals first
      | exact take_len (m := 4)
      | exact congrArg Nat.cast (take_len (m := 4))
      | (apply take_cell (m := 4); assumption)
      | exact Nat.zero_le _
      | (rename_i i hi t; exact absurd hi (Nat.not_lt_zero _))
      | trace_state
  intro k hk
  repeat' (first | exact @id (emp _ = true) | (intro h; first | exact Bool.noConfusion h | (simp only [Qn] at h) | skip) | ((conv => whnf) <;> (first | exact trivial | apply Qa | apply And.intro | refine CutE.at (A := Nat) (k + 1) ?_ | refine RoP.at (((ms.take 4).getD k default).take 8).length (slG encM (((ms.take 4).getD k default).take 8)) ?_ ?_ ?_ | apply Qb | apply Qc | apply Qd | apply Qe | apply Qf | apply Qg | apply Qh | apply Qi | exact QA | exact QP | refine QG ?_ | apply Qj | apply Qk | apply Ql | apply Qm | apply Qo | apply Qp | apply Qw | apply Qv | apply Qu | apply Qt | apply Qs | apply Qr | apply Qq | apply Qx | apply wrapS | apply Qy | (with_reducible exact lenNil) | apply Eq.refl)) | ((with_reducible first | apply Y1 | apply Y2 | apply Y3 | show blkEq _ _ _); conv => whnf))
  all_goals try simp only [Int.toNat_natCast, Int.ofNat_lt] at *
  all_goals first
    | omega
    | exact take_lo (m := 8)
    | exact take_hi (m := 8)
    | exact (take_len (m := 8)).symm
    | (apply Eq.symm; apply take_cell (m := 8); assumption)
    | (show (k + 1) * 24 ≤ _; omega)
    | (rw [cut_takeS (by omega)]
       refine (slG_snoc (enc := mvsE) (k := 1) (n := k) (x := List.take 8 ((List.take 4 ms).getD k default)) ?_ rfl _ (by assumption) _ (by assumption)).symm
       rw [List.length_take]; omega)
    | (show (cutT ms).length = k; omega)
    | (have e : (cutT ms).take k = cutT ms := List.take_of_length_le (by omega)
       rw [e] <;> rfl)
    | trace_state
/-- One store. -/
def msA : List (List Mv) := [[(0, 0, 7)]]
theorem alive_out : outF 1 0 msA = [[7]] := by
  refine sorted_ext _ _ (outF_sorted _ _ _) (List.pairwise_singleton _ _) fun r => ?_
  rw [outF_mem (by decide +kernel)]
  have e : outL (0 : Int).toNat msA (ini (1 : Int).toNat msA.length) = [[7]] := by decide +kernel
  rw [e]
theorem ro_to {O : Nat → Prop} {w : World} {n k : Nat} {b : Bool} {g g' : Nat → Nat → Cell} (h : ∀ i, i < n → ∀ t, t < k → ∀ u, Rel O w (g i t) noNames u → Rel O w (g' i t) noNames u) {hs : Names} {u : Value}
    (h1 : Rel O w (.ro n k b g) hs u) : Rel O w (.ro n k b g') hs u := by
  obtain ⟨a, cap, h2, h3, h4, h5, h6⟩ := h1
  refine ⟨a, cap, h2, h3, h4, h5, fun h7 => ?_⟩
  obtain ⟨x, off, h8, h9, h10, h11⟩ := h6 h7
  refine ⟨x, off, h8, h9, h10, fun i hi t ht => ?_⟩
  obtain ⟨y, h12, h13⟩ := h11 i hi t ht
  exact ⟨y, h12, h i hi t ht y h13⟩
theorem args_oneL {O : Nat → Prop} {w : World} {hs : Names} {l l' : List Cell} {vals : Array Value} (hl : l.length = l'.length) (h : ∀ (i : Nat) (c c' : Cell), l[i]? = some c → l'[i]? = some c' → ∀ u, Rel O w c hs u → Rel O w c' hs u)
    (h1 : ArgsRel O w hs [.s (.agg l)] vals) : ArgsRel O w hs [.s (.agg l')] vals := by
  refine ⟨h1.1, fun i a v ha hv => ?_⟩
  cases i with
  | succ i => cases ha
  | zero =>
    cases ha
    obtain ⟨cs, h2, h3, h4⟩ := h1.2 0 _ v rfl hv
    refine ⟨cs, h2, by rw [h3, hl], fun i c' v' hc hv' => ?_⟩
    have hi : i < l.length := by
      rw [hl]
      exact (List.getElem?_eq_some_iff.1 hc).1
    exact h i l[i] c' (List.getElem?_eq_getElem hi) hc v' (h4 i l[i] v' (List.getElem?_eq_getElem hi) hv')
/-- A litmus of one move that is written out. -/
noncomputable def sOutA : FSpec := spec Unit (fun _ => [.agg [.i 1, .i 0, .ro 1 1 false (litG 1 [.ro 1 3 false (litG 3 [.i 0, .i 0, .i 7])])]]) (fun _ => True) fun _ => .tup [.c (slC 1 rowE [[7]]), .c (.i 0)]
theorem outA_ok : Meets Tryd.prog 8 sOutA where
  pn := fun _ => out_ok.pn (1, 0, msA)
  qn := fun _ => out_ok.qn (1, 0, msA)
  full := fun _ => out_ok.full (1, 0, msA)
  kp := fun _ => out_ok.kp (1, 0, msA)
  body := out_ok.body
  iter := fun _ _ _ h => by cases h
  run := fun ⟨⟩ _ _ F hs w vals h1 h2 h3 => by
    have h2 : ArgsRel (Osum F hs (look [])) w hs [.s (.agg [.i 1, .i 0, .ro 1 1 false (litG 1 [.ro 1 3 false (litG 3 [.i 0, .i 0, .i 7])])])] vals := h2
    have he : errF 1 0 msA = 0 := by decide +kernel
    have hs' : Short msA := fun i => by
      match i with
      | 0 => decide
      | i + 1 => exact Nat.zero_le _
    have h4 : ArgsRel (Osum F hs (look [])) w hs [.s (.agg (litC 1 0 msA))] vals := by
      refine args_oneL (l := [.i 1, .i 0, .ro 1 1 false (litG 1 [.ro 1 3 false (litG 3 [.i 0, .i 0, .i 7])])]) rfl ?_ h2
      intro i c c' hc hc' u hu
      match i, hc, hc' with
      | 0, hc, hc' => cases hc; cases hc'; exact hu
      | 1, hc, hc' => cases hc; cases hc'; exact hu
      | 2, hc, hc' =>
        cases hc; cases hc'
        refine ro_to ?_ hu
        intro i hi t ht u hu
        have : i = 0 := Nat.lt_one_iff.1 hi
        have : t = 0 := Nat.lt_one_iff.1 ht
        subst i t
        refine ro_to ?_ (show Rel _ _ (.ro 1 3 false (litG 3 [.i 0, .i 0, .i 7])) noNames _ from hu)
        intro i hi t ht u hu
        have : i = 0 := Nat.lt_one_iff.1 hi
        subst i
        match t, ht with
        | 0, _ => exact hu
        | 1, _ => exact hu
        | 2, _ => exact hu
      | i + 3, hc, _ => cases hc
    refine (out_ok.run (1, 0, msA) rfl hs' F hs w vals h1 h4 h3).mono fun e w' h => ?_
    · have e : (sOut.res (1, 0, msA)) = sOutA.res () := by
        show RV.tup [.c (slC 1 rowE (outF 1 0 msA)), .c (.i (errF 1 0 msA))] = _
        rw [alive_out, he]
        rfl
      obtain ⟨v, h5, h6⟩ := h
      refine ⟨v, h5, ?_⟩
      rw [← e]
      exact h6
noncomputable def sAliveL : FSpec := spec Unit (fun _ => []) (fun _ => True) fun _ => .b true
set_option maxHeartbeats 4000000 in
set_option maxRecDepth 100000 in
theorem aliveL_ok : Meets Tryd.prog 9 sAliveL := by
  refine meets_plain (gok_cons outA_ok (gok_nil _) : GOK Tryd.prog (tab [(8, sOutA)])) rfl [] (fn := Tryd.f9) rfl rfl rfl (by decide) fun _ _ => ?_
  repeat' (first | exact @id (emp _ = true) | (intro h; first | exact Bool.noConfusion h | (simp only [Qn] at h) | skip) | ((conv => whnf) <;> (first | exact trivial | apply Qa | apply And.intro | refine CutE.at (A := Unit) () ?_ | apply Qb | apply Qc | apply Qd | apply Qe | apply Qf | apply Qg | apply Qh | apply Qi | exact QA | exact QP | refine QG ?_ | apply Qj | apply Qk | apply Ql | apply Qm | apply Qo | apply Qp | apply Qw | apply Qv | apply Qu | apply Qt | apply Qs | apply Qr | apply Qq | apply Qx | apply wrapS | apply Qy | (with_reducible exact lenNil) | apply Eq.refl)) | ((with_reducible first | apply Y1 | apply Y2 | apply Y3 | show blkEq _ _ _); conv => whnf))
  all_goals first
    | decide
    | (rename_i i hi t ht
       have : i = 0 := by omega
       have : t = 0 := Nat.lt_one_iff.1 ht
       subst i t
       rfl)
    | trace_state
def sHasR : FSpec := spec (List (List Int) × List Int) (fun (L, o) => [.c (slC 1 rowE L), .c (intsS o)]) (fun (L, _) => Rows5 L) fun (L, o) => .b (decide (o ∈ L))
theorem has_at {L : List (List Int)} {o : List Int} {k : Nat} (h : k < L.length) (e : L.getD k default = o) : true = decide (o ∈ L) := by
  apply Eq.symm
  apply decide_eq_true
  rw [← e]
  exact getD_in h
theorem has_no {L : List (List Int)} {o : List Int} {k : Nat} (hk : L.length ≤ k) (h : Up k fun i => ¬ L.getD i default = o) : false = decide (o ∈ L) := by
  apply Eq.symm
  apply decide_eq_false
  intro hm
  obtain ⟨i, hi, e⟩ := List.getElem_of_mem hm
  refine h.get i (by omega) ?_
  rw [List.getD_eq_getElem?_getD, List.getElem?_eq_getElem hi]
  exact e
set_option maxHeartbeats 4000000 in
set_option maxRecDepth 100000 in
theorem has_ok' : Meets Tryd.prog 11 sHasR := by
  refine meets_plain (gok_cons ints_ok (gok_nil _) : GOK Tryd.prog (tab [(26, sInts)])) rfl [] (fn := Tryd.f11) rfl rfl rfl (by decide) fun ⟨L, o⟩ h => ?_
  obtain ⟨hL, hb⟩ : L.length ≤ 5000000000 ∧ ∀ i, (L.getD i default).length ≤ 1000000 := h
  repeat' (first | exact @id (emp _ = true) | (intro h; first | exact Bool.noConfusion h | (simp only [Qn] at h) | skip) | ((conv => whnf) <;> (first | exact trivial | apply Qa | apply And.intro | apply Qb | apply Qc | apply Qd | apply Qe | apply Qf | apply Qg | apply Qh | apply Qi | exact QA | exact QP | refine QG ?_ | apply Qj | apply Qk | apply Ql | apply Qm | apply Qo | apply Qp | apply Qw | apply Qv | apply Qu | apply Qt | apply Qs | apply Qr | apply Qq | apply Qx | apply wrapS | apply Qy | (with_reducible exact lenNil) | apply Eq.refl)) | ((with_reducible first | apply Y1 | apply Y2 | apply Y3 | show blkEq _ _ _); conv => whnf))
  apply LoopP.up (G := Nat) (fun k => k ≤ L.length ∧ Up k fun i => ¬ L.getD i default = o) [1, 7, 8, 9] (fun k => [(9, .i k)]) (fun _ => []) 0 (fun k => L.length - k)
  apply And.intro
  · refine CutE.at 0 ?_
    repeat' (first | exact @id (emp _ = true) | (intro h; first | exact Bool.noConfusion h | (simp only [Qn] at h) | skip) | ((conv => whnf) <;> (first | exact trivial | apply Qa | apply And.intro | apply Qb | apply Qc | apply Qd | apply Qe | apply Qf | apply Qg | apply Qh | apply Qi | exact QA | exact QP | refine QG ?_ | apply Qj | apply Qk | apply Ql | apply Qm | apply Qo | apply Qp | apply Qw | apply Qv | apply Qu | apply Qt | apply Qs | apply Qr | apply Qq | apply Qx | apply wrapS | apply Qy | (with_reducible exact lenNil) | apply Eq.refl)) | ((with_reducible first | apply Y1 | apply Y2 | apply Y3 | show blkEq _ _ _); conv => whnf))
    all_goals try simp only [Int.toNat_natCast, Int.toNat_zero, ge_iff_le, gt_iff_lt, Int.ofNat_le, Int.ofNat_lt, Int.ofNat_inj] at *
    all_goals first
      | omega
      | (dsimp only; omega)
      | assumption
      | exact Up.zero _
      | (show ((8 : Nat) : Int) * _ ≤ _; omega)
      | (show _ * (8 : Nat) ≤ _; omega)
      | (show _ * (16 : Nat) ≤ _; omega)
      | (show _ * (24 : Nat) ≤ _; omega)
      | trace_state
  intro k ⟨hk, hu⟩
  repeat' (first | exact @id (emp _ = true) | (intro h; first | exact Bool.noConfusion h | (simp only [Qn] at h) | skip) | ((conv => whnf) <;> (first | exact trivial | apply Qa | apply And.intro | refine CutE.at (A := Nat) (k + 1) ?_ | apply Qb | apply Qc | apply Qd | apply Qe | apply Qf | apply Qg | apply Qh | apply Qi | exact QA | exact QP | refine QG ?_ | apply Qj | apply Qk | apply Ql | apply Qm | apply Qo | apply Qp | apply Qw | apply Qv | apply Qu | apply Qt | apply Qs | apply Qr | apply Qq | apply Qx | apply wrapS | apply Qy | (with_reducible exact lenNil) | apply Eq.refl)) | ((with_reducible first | apply Y1 | apply Y2 | apply Y3 | show blkEq _ _ _); conv => whnf))
  all_goals try simp only [Int.toNat_natCast] at *
  all_goals first
    | omega
    | exact hb _
    | exact (has_at (k := k) (by omega) (by assumption)).symm
    | exact has_at (k := k) (by omega) (by assumption)
    | exact hu.succ (by assumption)
    | exact (has_no (k := k) (by omega) hu).symm
    | exact has_no (k := k) (by omega) hu
    | trace_state
def sRows : FSpec := spec (List (List Int) × List (List Int)) (fun (a, b) => [.c (slC 1 rowE a), .c (slC 1 rowE b)]) (fun (a, _) => Rows5 a) fun (a, b) => .b (decide (a = b))
theorem rows_ne {a b : List (List Int)} {k : Nat} (h : ¬ a.getD k default = b.getD k default) : false = decide (a = b) := by
  apply Eq.symm
  apply decide_eq_false
  rintro rfl
  exact h rfl
theorem rows_eq {a b : List (List Int)} (hl : a.length = b.length) {k : Nat} (hk : a.length ≤ k) (hu : Up k fun i => a.getD i default = b.getD i default) : true = decide (a = b) := by
  apply Eq.symm
  apply decide_eq_true
  apply List.ext_getElem hl
  intro i h1 h2
  have := hu.get i (by omega)
  simpa [List.getD_eq_getElem?_getD, List.getElem?_eq_getElem h1, List.getElem?_eq_getElem h2] using this
set_option maxHeartbeats 4000000 in
set_option maxRecDepth 100000 in
theorem rows_ok : Meets Tryd.prog 10 sRows := by
  refine meets_plain (gok_cons ints_ok (gok_nil _) : GOK Tryd.prog (tab [(26, sInts)])) rfl [] (fn := Tryd.f10) rfl rfl rfl (by decide) fun ⟨a, b⟩ h => ?_
  obtain ⟨hL, hb⟩ : a.length ≤ 5000000000 ∧ ∀ i, (a.getD i default).length ≤ 1000000 := h
  repeat' (first | exact @id (emp _ = true) | (intro h; first | exact Bool.noConfusion h | (simp only [Qn] at h) | skip) | ((conv => whnf) <;> (first | exact trivial | apply Qa | apply And.intro | apply Qb | apply Qc | apply Qd | apply Qe | apply Qf | apply Qg | apply Qh | apply Qi | exact QA | exact QP | refine QG ?_ | apply Qj | apply Qk | apply Ql | apply Qm | apply Qo | apply Qp | apply Qw | apply Qv | apply Qu | apply Qt | apply Qs | apply Qr | apply Qq | apply Qx | apply wrapS | apply Qy | (with_reducible exact lenNil) | apply Eq.refl)) | ((with_reducible first | apply Y1 | apply Y2 | apply Y3 | show blkEq _ _ _); conv => whnf))
  · simp only [false_eq_decide_iff, decide_eq_false_iff_not]
    rintro rfl
    exact absurd rfl (by assumption)
  apply LoopP.up (G := Nat) (fun k => k ≤ a.length ∧ Up k fun i => a.getD i default = b.getD i default) [0, 1, 12, 13] (fun k => [(13, .i k)]) (fun _ => []) 0 (fun k => a.length - k)
  apply And.intro
  · refine CutE.at 0 ?_
    repeat' (first | exact @id (emp _ = true) | (intro h; first | exact Bool.noConfusion h | (simp only [Qn] at h) | skip) | ((conv => whnf) <;> (first | exact trivial | apply Qa | apply And.intro | apply Qb | apply Qc | apply Qd | apply Qe | apply Qf | apply Qg | apply Qh | apply Qi | exact QA | exact QP | refine QG ?_ | apply Qj | apply Qk | apply Ql | apply Qm | apply Qo | apply Qp | apply Qw | apply Qv | apply Qu | apply Qt | apply Qs | apply Qr | apply Qq | apply Qx | apply wrapS | apply Qy | (with_reducible exact lenNil) | apply Eq.refl)) | ((with_reducible first | apply Y1 | apply Y2 | apply Y3 | show blkEq _ _ _); conv => whnf))
    all_goals try simp only [Int.toNat_natCast, Int.toNat_zero, ge_iff_le, gt_iff_lt, Int.ofNat_le, Int.ofNat_lt, Int.ofNat_inj] at *
    all_goals first
      | omega
      | (dsimp only; omega)
      | assumption
      | exact Up.zero _
      | (show ((8 : Nat) : Int) * _ ≤ _; omega)
      | (show _ * (8 : Nat) ≤ _; omega)
      | (show _ * (16 : Nat) ≤ _; omega)
      | (show _ * (24 : Nat) ≤ _; omega)
      | trace_state
  intro k ⟨hk, hu⟩
  repeat' (first | exact @id (emp _ = true) | (intro h; first | exact Bool.noConfusion h | (simp only [Qn] at h) | skip) | ((conv => whnf) <;> (first | exact trivial | apply Qa | apply And.intro | refine CutE.at (A := Nat) (k + 1) ?_ | apply Qb | apply Qc | apply Qd | apply Qe | apply Qf | apply Qg | apply Qh | apply Qi | exact QA | exact QP | refine QG ?_ | apply Qj | apply Qk | apply Ql | apply Qm | apply Qo | apply Qp | apply Qw | apply Qv | apply Qu | apply Qt | apply Qs | apply Qr | apply Qq | apply Qx | apply wrapS | apply Qy | (with_reducible exact lenNil) | apply Eq.refl)) | ((with_reducible first | apply Y1 | apply Y2 | apply Y3 | show blkEq _ _ _); conv => whnf))
  all_goals try simp only [Int.toNat_natCast] at *
  all_goals first
    | omega
    | exact hb _
    | exact (rows_ne (k := k) (by assumption)).symm
    | exact rows_ne (k := k) (by assumption)
    | exact hu.succ (by assumption)
    | exact (rows_eq (by omega) (k := k) (by omega) hu).symm
    | exact rows_eq (by omega) (k := k) (by omega) hu
    | trace_state
end Go.Eng
namespace Go.Eng
open Go Go.Proofs
set_option maxRecDepth 100000 in
theorem opMv : Opens Tryd.prog 28 3 encM (fun _ => True) :=
  Opens.map (Opens.struct Tryd.underlying28 (by kernel_rfl) (OpensF.cons rfl (Opens.int Tryd.underlying3 (by kernel_rfl)) (OpensF.cons rfl (Opens.int Tryd.underlying3 (by kernel_rfl)) (OpensF.cons rfl (Opens.int Tryd.underlying3 (by kernel_rfl)) OpensF.nil))))
    (fun x => ((x.1, x.2.1, x.2.2.1) : Mv)) (fun _ _ => rfl) (fun _ _ => trivial) (fun _ _ => rfl)
end Go.Eng
