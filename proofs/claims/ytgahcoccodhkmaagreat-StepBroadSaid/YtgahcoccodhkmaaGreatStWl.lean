/- A part of the walks, and of the machine that proves them (StWl). -/
import Derived.Test.YtgahcoccodhkmaaGreatStRu
import Derived.Test.YtgahcoccodhkmaaGreatStN1
import Derived.Test.YtgahcoccodhkmaaGreatMeB
set_option linter.unusedVariables false
set_option linter.unusedSimpArgs false
namespace Go.Eng
open Go Go.Proofs
/-- A cut that lists all blocks. -/
theorem CutP.upZ {regs : List RV} {bs : List (Nat × Blk)} {nx : Nat} {p : (G : Type) → (G → Prop) → (G → St) → Prop} {G : Type} (I : G → Prop) (live : List Nat)
    (U : G → List (Nat × RV)) (B : G → List (Nat × Blk)) (nx' : Nat)
    (h : p G I (fun g => ⟨maskR live (U g) 0 regs, B g, nx'⟩)) : CutP ⟨regs, bs, nx⟩ p := ⟨⟨G, I, _, h⟩⟩
theorem map_takeF {f : Int → Int} {l : List Int} {k : Nat} (hk : k < l.length) : (l.map f).take (k + 1) = (l.map f).take k ++ [f (l.getD k default)] := by
  rw [take_getD (d := default) (by simpa using hk)]
  simp [List.getD_eq_getElem?_getD, List.getElem?_map, List.getElem?_eq_getElem hk]
def modS (n : Nat) (s : Int) : Int := (IntKind.i64.wrap (IntKind.i64.wrap (s.tmod (IntKind.i64.wrap ((n : Int) + 1)) + n) + 1)).tmod (IntKind.i64.wrap ((n : Int) + 1))
theorem modS_in {n : Nat} {s : Int} (hn : n ≤ 1000) : 0 ≤ modS n s ∧ modS n s ≤ n := by
  unfold modS
  rw [wrap_i64 (x := (n : Int) + 1) (by omega)]
  have h1 := Int.tmod_lt_of_pos s (show (0 : Int) < (n : Int) + 1 by omega)
  have h2 := Int.lt_tmod_of_pos s (show (0 : Int) < (n : Int) + 1 by omega)
  rw [wrap_i64 (x := s.tmod ((n : Int) + 1) + n) (by omega), wrap_i64 (by omega)]
  have h3 := Int.tmod_lt_of_pos (s.tmod ((n : Int) + 1) + n + 1) (show (0 : Int) < (n : Int) + 1 by omega)
  have h4 : 0 ≤ (s.tmod ((n : Int) + 1) + n + 1).tmod ((n : Int) + 1) := Int.tmod_nonneg _ (by omega)
  omega
def modD (d : Int) : Int := (IntKind.i64.wrap (d.tmod 9 + 9)).tmod 9
theorem modD_in (d : Int) : 0 ≤ modD d ∧ modD d ≤ 8 := by
  unfold modD
  have h1 := Int.tmod_lt_of_pos d (show (0 : Int) < 9 by omega)
  have h2 := Int.lt_tmod_of_pos d (show (0 : Int) < 9 by omega)
  rw [wrap_i64 (by omega)]
  have h3 := Int.tmod_lt_of_pos (d.tmod 9 + 9) (show (0 : Int) < 9 by omega)
  have h4 : 0 ≤ (d.tmod 9 + 9).tmod 9 := Int.tmod_nonneg _ (by omega)
  omega
def baseR (code : List Ins) (ws ts : List Int) : Prop := codeR (code.take 60) = true ∧ memR (ws.take 170) (ts.take 170) = true
instance (code : List Ins) (ws ts : List Int) : Decidable (baseR code ws ts) := by unfold baseR; infer_instance
def codeU (code : List Ins) (ws ts : List Int) : List Ins := if baseR code ws ts then code.take 60 else []
def wsU (code : List Ins) (ws ts : List Int) : List Int := if baseR code ws ts then ws.take 170 else [0]
def tsU (code : List Ins) (ws ts : List Int) : List Int := if baseR code ws ts then ts.take 170 else [0]
def atU (n : Nat) (st : List Int) : List Int := if (st.take 8).length = 0 then [0] else (st.take 8).map (modS n)
def startW (code : List Ins) (st ws ts : List Int) (d : Int) : Wd := newW (codeU code ws ts) (atU (codeU code ws ts).length st) (wsU code ws ts) (tsU code ws ts) (modD d)
def worldF (code : List Ins) (st ws ts : List Int) (d : Int) (acts : List Act) : Wd := (runK (startW code st ws ts d) (acts.take 80) (acts.take 80).length).1
theorem codeR_nil : codeR [] = true := rfl
theorem memR_zero : memR [0] [0] = true := by decide
theorem thAt_R {p : Int} (h : 0 ≤ p ∧ p ≤ 1000) : thR (thAt p) = true :=
  thR_iff.2 ⟨placeF_iff.2 h, Nat.zero_le _, Nat.zero_le _, rfl, rfl, rfl⟩
theorem new_right {code : List Ins} {st ws ts : List Int} {d : Int} (hc : codeR code = true) (hm : memR ws ts = true) (hn : 1 ≤ st.length ∧ st.length ≤ 8) (hd : 0 ≤ d ∧ d ≤ 8) (hs : ∀ s ∈ st, 0 ≤ s ∧ s ≤ code.length) : worldR (newW code st ws ts d) = true := by
  have hcl := (codeR_iff.1 hc).1
  refine worldR_iff.2 ⟨hc, tsoR_iff.2 ⟨hm, sizesF_iff.2 ?_, fun i hi => ?_⟩, ?_, fun i hi => ?_⟩
  · have hL : (newW code st ws ts d).l.length = st.length := List.length_replicate
    have hD : (newW code st ws ts d).d = d := rfl
    rw [hL, hD]
    omega
  · have hi : i < (List.replicate st.length ([] : List Put)).length := hi
    show okB ws.length d ((List.replicate st.length ([] : List Put)).getD i default) = true
    rw [List.getD_eq_getElem?_getD, List.getElem?_eq_getElem hi, Option.getD_some, List.getElem_replicate]
    simp only [okB, List.any_nil, Bool.not_false, Bool.and_true, decide_eq_true_eq]
    show ((0 : Nat) : Int) ≤ d
    omega
  · show (st.map thAt).length = (List.replicate st.length ([] : List Put)).length
    rw [List.length_map, List.length_replicate]
  · have hi : i < (st.map thAt).length := hi
    show okTh (st.map thAt).length ((st.map thAt).getD i default) = true
    rw [List.getD_eq_getElem?_getD, List.getElem?_eq_getElem hi, Option.getD_some, List.getElem_map]
    rw [List.length_map] at hi
    have := hs _ (List.getElem_mem hi)
    exact okTh_iff.2 ⟨thAt_R (by omega), .inl rfl⟩
theorem atU_len (n : Nat) (st : List Int) : 1 ≤ (atU n st).length ∧ (atU n st).length ≤ 8 := by
  have h : (st.take 8).length ≤ 8 := List.length_take_le _ _
  unfold atU
  split
  · exact ⟨Nat.le_refl _, by show 1 ≤ 8; decide⟩
  · rw [List.length_map]; omega
theorem atU_in {n : Nat} (hn : n ≤ 1000) (st : List Int) : ∀ s ∈ atU n st, 0 ≤ s ∧ s ≤ n := by
  intro s hs
  unfold atU at hs
  split at hs
  · rw [List.mem_singleton] at hs; omega
  · obtain ⟨x, _, rfl⟩ := List.mem_map.1 hs
    exact modS_in hn
theorem base_ok (code : List Ins) (ws ts : List Int) : codeR (codeU code ws ts) = true ∧ memR (wsU code ws ts) (tsU code ws ts) = true ∧ (codeU code ws ts).length ≤ 60 := by
  unfold codeU wsU tsU
  by_cases h : baseR code ws ts
  · rw [if_pos h, if_pos h, if_pos h]; exact ⟨h.1, h.2, List.length_take_le _ _⟩
  · rw [if_neg h, if_neg h, if_neg h]; exact ⟨codeR_nil, memR_zero, Nat.zero_le _⟩
theorem start_right (code : List Ins) (st ws ts : List Int) (d : Int) : worldR (startW code st ws ts d) = true := by
  obtain ⟨h1, h2, h3⟩ := base_ok code ws ts
  exact new_right h1 h2 (atU_len _ _) (modD_in d) (atU_in (by omega) _)
theorem world_kept (code : List Ins) (st ws ts : List Int) (d : Int) (acts : List Act) : worldR (worldF code st ws ts d acts) = true ∧ (worldF code st ws ts d acts).ev.length ≤ 80 := by
  have h := run_kept (start_right code st ws ts d) (acts.take 80) (acts.take 80).length
  have h2 : (acts.take 80).length ≤ 80 := List.length_take_le _ _
  refine ⟨h.r, ?_⟩
  have h3 := h.ev
  show (runK (startW code st ws ts d) (acts.take 80) (acts.take 80).length).1.ev.length ≤ 80
  have h4 : (startW code st ws ts d).ev.length = 0 := rfl
  omega
def sMem8 : FSpec := spec (List Int × List Int) (fun (a, b) => [.c (intsS a), .c (intsS b)]) (fun _ => True) fun (a, b) => .s (rMem (a.take 170, b.take 170))
set_option maxHeartbeats 1000000 in
set_option maxRecDepth 100000 in
theorem mem8_ok : Meets Tryz.prog 16 sMem8 := by
  refine meets_plain (gok_nil _) rfl [] (fn := Tryz.f16) rfl rfl rfl (by decide) fun ⟨a, b⟩ _ => ?_
  repeat' (first | exact @id (emp _ = true) | (intro h; first | exact Bool.noConfusion h | (simp only [Qn] at h) | skip) | ((conv => whnf) <;> (first | exact trivial | apply Qa | apply And.intro | apply Qb | apply Qc | apply Qd | apply Qe | apply Qf | apply Qg | apply Qh | apply Qi | exact QA | exact QP | refine QG ?_ | apply Qj | apply Qk | apply Ql | apply Qm | apply Qo | apply Qp | apply Qw | apply Qv | apply Qu | apply Qt | apply Qs | apply Qr | apply Qq | apply Qx | apply wrapS | apply Qy | (with_reducible exact lenNil) | apply Eq.refl)) | ((with_reducible first | apply Y1 | apply Y2 | apply Y3 | show blkEq _ _ _); conv => whnf))
  all_goals first
    | exact Int.le_refl _
    | exact take_lo (m := 170)
    | exact take_hi (m := 170)
    | exact take_len (m := 170)
    | (apply take_cell (m := 170); assumption)
    | trace_state
end Go.Eng
namespace Go.Eng
open Go Go.Proofs
def Wm1 : List (Nat × FSpec) := (16, sMem8) :: (18, sCodeR) :: (19, sRRight) :: (30, sRNew) :: (21, sNew8) :: (23, sRun8) :: Ru3
theorem Wm1_ok : GOK Tryz.prog (tab Wm1) := gok_cons mem8_ok (gok_cons rcodeR_ok (gok_cons rRight_ok (gok_cons rnew_ok (gok_cons new8_ok (gok_cons run8_ok Ru3_ok)))))
def sWorld8 : FSpec := spec (List Ins × List Int × List Int × List Int × Int × List Act) (fun (code, st, ws, ts, d, acts) => [.c (codeS code), .c (intsS st), .c (intsS ws), .c (intsS ts), .i d, .c (actsS acts)]) (fun _ => True) fun (code, st, ws, ts, d, acts) => .s (rWd (worldF code st ws ts d acts))
set_option maxHeartbeats 2000000 in
set_option maxRecDepth 100000 in
theorem world8_ok : Meets Tryz.prog 8 sWorld8 := by
  refine meets_plain Wm1_ok rfl [10, 18] (fn := Tryz.f8) rfl rfl rfl (by decide) fun ⟨code, st, ws, ts, d, acts⟩ _ => ?_
  obtain ⟨hb1, hb2, hb3⟩ := base_ok code ws ts
  have hcl : (code.take 60).length ≤ 60 := List.length_take_le _ _
  have hsl : (st.take 8).length ≤ 8 := List.length_take_le _ _
  have hal : (acts.take 80).length ≤ 80 := List.length_take_le _ _
  have hyes : codeR (code.take 60) = true → memR (ws.take 170) (ts.take 170) = true → codeU code ws ts = code.take 60 ∧ wsU code ws ts = ws.take 170 ∧ tsU code ws ts = ts.take 170 := fun h1 h2 => by
    have hb : baseR code ws ts := ⟨h1, h2⟩
    unfold codeU wsU tsU
    rw [if_pos hb, if_pos hb, if_pos hb]; exact ⟨rfl, rfl, rfl⟩
  have hno : ¬ (codeR (code.take 60) = true ∧ memR (ws.take 170) (ts.take 170) = true) → codeU code ws ts = [] ∧ wsU code ws ts = [0] ∧ tsU code ws ts = [0] := fun h => by
    have hb : ¬ baseR code ws ts := h
    unfold codeU wsU tsU
    rw [if_neg hb, if_neg hb, if_neg hb]; exact ⟨rfl, rfl, rfl⟩
  have hwr := start_right code st ws ts d
  have hat := atU_len (codeU code ws ts).length st
  have e1 : sWorld8.res (code, st, ws, ts, d, acts) = .s (rWd (runK (startW code st ws ts d) (acts.take 80) (acts.take 80).length).1) := rfl
  show bodyK Tryz.prog _ _ _ _ sWorld8 _
  unfold bodyK retE
  rw [e1]
  clear e1
  unfold startW at hwr ⊢
  have hA : ∀ n, atU n st = if (st.take 8).length = 0 then [0] else (st.take 8).map (modS n) := fun n => rfl
  generalize codeU code ws ts = C at *
  generalize wsU code ws ts = M at *
  generalize tsU code ws ts = T at *
  repeat' (first | exact @id (emp _ = true) | (intro h; first | exact Bool.noConfusion h | (simp only [Qn] at h) | skip) | ((conv => whnf) <;> (first | exact trivial | apply Qa | apply And.intro | apply Qb | apply Qc | apply Qd | apply Qe | apply Qf | apply Qg | apply Qh | apply Qi | exact QA | exact QP | refine QG ?_ | apply Qj | apply Qk | apply Ql | apply Qm | apply Qo | apply Qp | apply Qw | apply Qv | apply Qu | apply Qt | apply Qs | apply Qr | apply Qq | apply Qx | apply wrapS | apply Qy | (with_reducible exact lenNil) | apply Eq.refl)) | ((with_reducible first | apply Y1 | apply Y2 | apply Y3 | show blkEq _ _ _); conv => whnf))
  all_goals try first
    | omega
    | exact Int.le_refl _
    | exact take_lo (m := 60)
    | exact take_hi (m := 60)
  apply LoopP.up (G := Nat) (fun k => k ≤ (code.take 60).length) [1, 2, 3, 4, 5, 12, 13, 27, 28, 29] (fun k => [(29, .i k), (27, .s (.c (codeS (code.take 60)))), (28, .s (.c (.i (code.take 60).length))), (13, .c (.osl 1))]) (fun k => [(1, .slc 64 4 k (slG encIns ((code.take 60).take k)))]) 2 (fun k => (code.take 60).length - k)
  apply And.intro
  · refine CutE.at 0 ?_
    repeat' (first | exact @id (emp _ = true) | (intro h; first | exact Bool.noConfusion h | (simp only [Qn] at h) | skip) | ((conv => whnf) <;> (first | exact trivial | apply Qa | apply And.intro | apply Qb | apply Qc | apply Qd | apply Qe | apply Qf | apply Qg | apply Qh | apply Qi | exact QA | exact QP | refine QG ?_ | apply Qj | apply Qk | apply Ql | apply Qm | apply Qo | apply Qp | apply Qw | apply Qv | apply Qu | apply Qt | apply Qs | apply Qr | apply Qq | apply Qx | apply wrapS | apply Qy | (with_reducible exact lenNil) | apply Eq.refl)) | ((with_reducible first | apply Y1 | apply Y2 | apply Y3 | show blkEq _ _ _); conv => whnf))
    all_goals first
      | omega
      | exact take_len (m := 60)
      | exact congrArg Nat.cast (take_len (m := 60))
      | (apply take_cell (m := 60); assumption)
      | exact Nat.zero_le _
      | (rename_i i hi t; exact absurd hi (Nat.not_lt_zero _))
      | trace_state
  intro k hk
  have hall : ¬ k < (code.take 60).length → (code.take 60).take k = code.take 60 := fun h => List.take_of_length_le (by omega)
  have e0 : (k : Int).toNat = k := Int.toNat_natCast k
  repeat' (first | exact @id (emp _ = true) | (intro h; first | exact Bool.noConfusion h | (simp only [Qn] at h) | skip) | ((conv => whnf) <;> (first | exact trivial | apply Qa | apply And.intro | refine CutE.at (A := Nat) (k + 1) ?_ | (refine CutE.at (A := List Ins) (code.take 60) ?_) | apply Qb | apply Qc | apply Qd | apply Qe | apply Qf | apply Qg | apply Qh | apply Qi | exact QA | exact QP | refine QG ?_ | apply Qj | apply Qk | apply Ql | apply Qm | apply Qo | apply Qp | apply Qw | apply Qv | apply Qu | apply Qt | apply Qs | apply Qr | apply Qq | apply Qx | apply wrapS | apply Qy | (with_reducible exact lenNil) | apply Eq.refl)) | ((with_reducible first | apply Y1 | apply Y2 | apply Y3 | show blkEq _ _ _); conv => whnf))
  all_goals try first
    | omega
    | (show (k + 1) * 32 ≤ _; omega)
    | (show (code.take 60).length - (k + 1) < (code.take 60).length - k; omega)
    | (show k + 1 ≤ (code.take 60).length; omega)
    | exact slG_take1 (q := 4) (by omega) rfl (by assumption) (by assumption) (by rw [e0]; rfl)
    | (show slG encIns (code.take 60) _ _ = _; rw [hall (by assumption)])
  apply CutP.upZ (G := Unit) (fun _ => True) [1, 4, 5, 12, 13, 16] (fun _ => [(13, .s (.c (codeS C))), (16, .s (.c (.ptr 1 0)))]) (fun _ => [(0, .row 33 [.v (.slice none 0 0), .v (.slice none 0 0), .v (.slice none 0 0), .i 0, .v (.slice none 0 0), .v (.slice none 0 0), .v (.slice none 0 0)]), (1, .row 26 (memC M T))]) 2
  have hkl : k = (code.take 60).length := by omega
  have hck := hall (by omega)
  apply And.intro
  · have hy := fun h1 h2 => (hyes h1 h2).1
    have hy2 := fun h1 h2 => (hyes h1 h2).2.1
    have hy3 := fun h1 h2 => (hyes h1 h2).2.2
    have hn1 : codeR (code.take 60) = false → C = [] ∧ M = [0] ∧ T = [0] := fun h => hno fun hh => Bool.noConfusion (hh.1.symm.trans h)
    have hn2 : memR (ws.take 170) (ts.take 170) = false → C = [] ∧ M = [0] ∧ T = [0] := fun h => hno fun hh => Bool.noConfusion (hh.2.symm.trans h)
    have hnf : newF 1 = (([0], [0]), 0) := by decide
    clear hyes hno
    repeat' (first | exact @id (emp _ = true) | (intro h; first | exact Bool.noConfusion h | (simp only [Qn] at h) | skip) | ((conv => whnf) <;> (first | exact trivial | apply Qa | apply And.intro | (refine CutE.at (A := List Ins) (code.take 60) ?_) | (refine CutE.at (A := Unit) () ?_) | (refine EntP.at [] [0, 2] ?_) | apply Qb | apply Qc | apply Qd | apply Qe | apply Qf | apply Qg | apply Qh | apply Qi | exact QA | exact QP | refine QG ?_ | apply Qj | apply Qk | apply Ql | apply Qm | apply Qo | apply Qp | apply Qw | apply Qv | apply Qu | apply Qt | apply Qs | apply Qr | apply Qq | apply Qx | apply wrapS | apply Qy | (with_reducible exact lenNil) | apply Eq.refl)) | ((with_reducible first | apply Y1 | apply Y2 | apply Y3 | show blkEq _ _ _); conv => whnf))
    all_goals first
      | omega
      | (rw [hck, hy (by assumption) (by assumption)])
      | (rw [hy (by assumption) (by assumption)]; omega)
      | (rw [hck])
      | (rw [(hn1 (by assumption)).1]; rfl)
      | (rw [(hn2 (by assumption)).1]; rfl)
      | (rw [hnf, (hn1 (by assumption)).2.1])
      | (rw [hnf, (hn1 (by assumption)).2.2])
      | (rw [hnf, (hn2 (by assumption)).2.1])
      | (rw [hnf, (hn2 (by assumption)).2.2])
      | (rw [hy (by assumption) (by assumption)])
      | (rw [hy (by assumption) (by assumption), hck])
      | (rw [hy (by assumption) (by assumption)]; omega)
      | (rw [hy2 (by assumption) (by assumption)])
      | (rw [hy3 (by assumption) (by assumption)])
      | trace_state
  intro _ _
  clear hyes hno
  repeat' (first | exact @id (emp _ = true) | (intro h; first | exact Bool.noConfusion h | (simp only [Qn] at h) | skip) | ((conv => whnf) <;> (first | exact trivial | apply Qa | apply And.intro | apply Qb | apply Qc | apply Qd | apply Qe | apply Qf | apply Qg | apply Qh | apply Qi | exact QA | exact QP | refine QG ?_ | apply Qj | apply Qk | apply Ql | apply Qm | apply Qo | apply Qp | apply Qw | apply Qv | apply Qu | apply Qt | apply Qs | apply Qr | apply Qq | apply Qx | apply wrapS | apply Qy | (with_reducible exact lenNil) | apply Eq.refl)) | ((with_reducible first | apply Y1 | apply Y2 | apply Y3 | show blkEq _ _ _); conv => whnf))
  all_goals try first
    | omega
    | exact Int.le_refl _
    | exact take_lo (m := 8)
    | exact take_hi (m := 8)
  have hml : ((st.take 8).map (modS C.length)).length = (st.take 8).length := List.length_map _
  apply LoopP.up (G := Nat) (fun k => k ≤ (st.take 8).length) [4, 5, 12, 13, 16, 17, 54, 55, 56] (fun k => [(56, .i k), (54, .s (.c (intsS (st.take 8)))), (55, .s (.c (.i (st.take 8).length))), (17, .c (.osl 2))]) (fun k => [(2, .slc 3 1 k (slG encI (((st.take 8).map (modS C.length)).take k)))]) 3 (fun k => (st.take 8).length - k)
  apply And.intro
  · refine CutE.at 0 ⟨EntP.at [⟨false, 17, 0, 3, 1⟩] [0, 1, 2] ?_, ?_⟩
    all_goals repeat' (first | exact @id (emp _ = true) | (intro h; first | exact Bool.noConfusion h | (simp only [Qn] at h) | skip) | ((conv => whnf) <;> (first | exact trivial | apply Qa | apply And.intro | apply Qb | apply Qc | apply Qd | apply Qe | apply Qf | apply Qg | apply Qh | apply Qi | exact QA | exact QP | refine QG ?_ | apply Qj | apply Qk | apply Ql | apply Qm | apply Qo | apply Qp | apply Qw | apply Qv | apply Qu | apply Qt | apply Qs | apply Qr | apply Qq | apply Qx | apply wrapS | apply Qy | (with_reducible exact lenNil) | apply Eq.refl)) | ((with_reducible first | apply Y1 | apply Y2 | apply Y3 | show blkEq _ _ _); conv => whnf))
    all_goals first
      | omega
      | exact take_len (m := 8)
      | exact congrArg Nat.cast (take_len (m := 8))
      | (apply take_cell (m := 8); assumption)
      | exact Nat.zero_le _
      | (rename_i i hi t; exact absurd hi (Nat.not_lt_zero _))
      | trace_state
  clear hkl hck hk e0 hall
  intro j hj
  have hj : j ≤ (st.take 8).length := hj
  have e0 : (j : Int).toNat = j := Int.toNat_natCast j
  have hsnoc : j < (st.take 8).length → ((st.take 8).map (modS C.length)).take (j + 1) = ((st.take 8).map (modS C.length)).take j ++ [modS C.length ((st.take 8).getD (j : Int).toNat default)] := fun h => by
    rw [e0]; exact map_takeF h
  have hw1 : IntKind.i64.wrap ((C.length : Int) + 1) = (C.length : Int) + 1 := wrap_i64 (by omega)
  have hall : ¬ j < (st.take 8).length → ((st.take 8).map (modS C.length)).take j = (st.take 8).map (modS C.length) := fun h => List.take_of_length_le (by omega)
  repeat' (first | exact @id (emp _ = true) | (intro h; first | exact Bool.noConfusion h | (simp only [Qn] at h) | skip) | ((conv => whnf) <;> (first | exact trivial | apply Qa | apply And.intro | refine CutE.at (A := Nat) (j + 1) ?_ | apply Qb | apply Qc | apply Qd | apply Qe | apply Qf | apply Qg | apply Qh | apply Qi | exact QA | exact QP | refine QG ?_ | apply Qj | apply Qk | apply Ql | apply Qm | apply Qo | apply Qp | apply Qw | apply Qv | apply Qu | apply Qt | apply Qs | apply Qr | apply Qq | apply Qx | apply wrapS | apply Qy | (with_reducible exact lenNil) | apply Eq.refl)) | ((with_reducible first | apply Y1 | apply Y2 | apply Y3 | show blkEq _ _ _); conv => whnf))
  all_goals try first
    | omega
    | (show (j + 1) * 8 ≤ _; omega)
    | (show (st.take 8).length - (j + 1) < (st.take 8).length - j; omega)
    | (show j + 1 ≤ (st.take 8).length; omega)
    | (rw [hw1]; omega)
    | (rw [hsnoc (by omega)]; exact (slG_snoc (enc := encI) (k := 1) (x := modS C.length ((st.take 8).getD (j : Int).toNat default)) (by rw [List.length_take]; omega) rfl _ (by assumption) _ (by assumption)).symm)
  have hjl : j = (st.take 8).length := by omega
  have hcj := hall (by omega)
  apply CutP.upZ (G := Unit) (fun _ => True) [4, 5, 12, 13, 16, 17] (fun _ => [(13, .s (.c (codeS C))), (16, .s (.c (.ptr 1 0))), (17, .s (.c (intsS (atU C.length st))))]) (fun _ => [(0, .row 33 [.v (.slice none 0 0), .v (.slice none 0 0), .v (.slice none 0 0), .i 0, .v (.slice none 0 0), .v (.slice none 0 0), .v (.slice none 0 0)]), (1, .row 26 (memC M T))]) 2
  have hz : (st.take 8).length = 0 → atU C.length st = [0] := fun h => by rw [hA, if_pos h]
  have hnz : ¬ (st.take 8).length = 0 → atU C.length st = (st.take 8).map (modS C.length) := fun h => by rw [hA, if_neg h]
  apply And.intro
  · repeat' (first | exact @id (emp _ = true) | (intro h; first | exact Bool.noConfusion h | (simp only [Qn] at h) | skip) | ((conv => whnf) <;> (first | exact trivial | apply Qa | apply And.intro | (refine CutE.at (A := Unit) () ?_) | (refine EntP.at [] [0, 1] ?_) | apply Qb | apply Qc | apply Qd | apply Qe | apply Qf | apply Qg | apply Qh | apply Qi | exact QA | exact QP | refine QG ?_ | apply Qj | apply Qk | apply Ql | apply Qm | apply Qo | apply Qp | apply Qw | apply Qv | apply Qu | apply Qt | apply Qs | apply Qr | apply Qq | apply Qx | apply wrapS | apply Qy | (with_reducible exact lenNil) | apply Eq.refl)) | ((with_reducible first | apply Y1 | apply Y2 | apply Y3 | show blkEq _ _ _); conv => whnf))
    all_goals first
      | omega
      | (rw [hz (by omega)]; done)
      | (rw [hz (by omega)]; rfl)
      | (rw [hz (by omega)]; rename_i i' hi' t'; have ht0 : t' = 0 := by omega
         have hi0 : i' = 0 := by rw [hz (by omega)] at hi'; have : i' < 1 := hi'; omega
         subst ht0 hi0; rfl)
      | (rw [hnz (by omega), hcj]; done)
      | (rw [hnz (by omega), hml]; omega)
      | trace_state
  clear hsnoc hall hz hnz hj hjl hcj hml hw1 e0
  intro _ _
  repeat' (first | exact @id (emp _ = true) | (intro h; first | exact Bool.noConfusion h | (simp only [Qn] at h) | skip) | ((conv => whnf) <;> (first | exact trivial | apply Qa | apply And.intro | (refine CutE.at (A := List Ins × List Int × List Int × List Int × Int) (C, atU C.length st, M, T, modD d) ?_) | (refine CutE.at (A := Wd × List Act) (newW C (atU C.length st) M T (modD d), acts.take 80) ?_) | apply Qb | apply Qc | apply Qd | apply Qe | apply Qf | apply Qg | apply Qh | apply Qi | exact QA | exact QP | refine QG ?_ | apply Qj | apply Qk | apply Ql | apply Qm | apply Qo | apply Qp | apply Qw | apply Qv | apply Qu | apply Qt | apply Qs | apply Qr | apply Qq | apply Qx | apply wrapS | apply Qy | (with_reducible exact lenNil) | apply Eq.refl)) | ((with_reducible first | apply Y1 | apply Y2 | apply Y3 | show blkEq _ _ _); conv => whnf))
  all_goals first
    | omega
    | exact hwr
    | exact Nat.zero_le _
    | exact Int.le_refl _
    | exact take_lo (m := 80)
    | exact take_hi (m := 80)
    | exact take_len (m := 80)
    | (apply take_cell (m := 80); assumption)
    | trace_state
end Go.Eng
