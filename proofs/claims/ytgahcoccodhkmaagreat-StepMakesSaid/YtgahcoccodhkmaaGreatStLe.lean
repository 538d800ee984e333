/- StepMakes, walked. -/
import Derived.Test.YtgahcoccodhkmaaGreatStAl
set_option linter.unusedVariables false
set_option linter.unusedSimpArgs false
namespace Go.Eng
open Go Go.Proofs

abbrev NArg := List Ins × List Int × List Int × List Int × Int
def sCodeY : FSpec := spec (Gh 26 (List Ins × Bool)) (fun ⟨(c, _)⟩ => [.c (codeS c)]) (fun ⟨(c, r)⟩ => codeR c = r) fun ⟨(_, r)⟩ => .b r
theorem sCodeY_ok : Meets Tryz.prog 18 sCodeY := meets_spec rcodeR_ok (fun ⟨(c, _)⟩ => c) (fun _ => rfl) (fun ⟨_⟩ _ => trivial) (fun ⟨(c, r)⟩ h => by
  have h : codeR c = r := h
  show RV.s (.c (.b r)) = RV.s (.c (.b (codeR c)))
  rw [h])
def sMemY : FSpec := spec (Gh 27 (List Int × List Int × Bool)) (fun ⟨(a, b, _)⟩ => [.agg (memC a b)]) (fun ⟨(a, b, r)⟩ => memR a b = r) fun ⟨(_, _, r)⟩ => .b r
theorem sMemY_ok : Meets Tryz.prog 19 sMemY := meets_spec rRight_ok (fun ⟨(a, b, _)⟩ => (a, b)) (fun _ => rfl) (fun ⟨_⟩ _ => trivial) (fun ⟨(a, b, r)⟩ h => by
  have h : memR a b = r := h
  show RV.s (.c (.b r)) = RV.s (.c (.b (memR a b)))
  rw [h])
def sCanF1 : FSpec := spec (Gh 28 (Bool × Wd × Int)) (fun ⟨(e, w, i)⟩ => [.agg (wdC e w), .i i]) (fun ⟨(_, w, i)⟩ => SmallW w ∧ worldR w = true ∧ 0 ≤ i ∧ i < w.th.length) fun ⟨(_, w, i)⟩ => .tup [.c (.b (canF w i)), .c (.i 0)]
theorem sCanF1_ok : Meets Tryz.prog 22 sCanF1 := meets_spec canP_ok (fun ⟨x⟩ => x) (fun _ => rfl) (fun ⟨_⟩ h => h.1) (fun ⟨(e, w, i)⟩ h => by
  show RV.tup [.c (.b (canF w i)), .c (.i 0)] = RV.tup [.c (.b (decide (worldR w = true ∧ 0 ≤ i ∧ i < w.th.length) && canF w i)), .c (.i (if worldR w = true ∧ 0 ≤ i ∧ i < w.th.length then 0 else atErr w))]
  rw [decide_eq_true h.2, if_pos h.2]; rfl)
def sCanF0 : FSpec := spec (Gh 29 (Bool × Wd × Int)) (fun ⟨(e, w, i)⟩ => [.agg (wdC e w), .i i]) (fun ⟨(_, w, _)⟩ => SmallW w ∧ worldR w = false) fun _ => .tup [.c (.b false), .c (.i 1)]
theorem sCanF0_ok : Meets Tryz.prog 22 sCanF0 := meets_spec canP_ok (fun ⟨x⟩ => x) (fun _ => rfl) (fun ⟨_⟩ h => h.1) (fun ⟨(e, w, i)⟩ h => by
  have hn : ¬ (worldR w = true ∧ 0 ≤ i ∧ i < w.th.length) := fun hp => Bool.noConfusion (h.2.symm.trans hp.1)
  have he : atErr w = 1 := by unfold atErr; rw [if_neg (by rw [h.2]; exact Bool.noConfusion)]
  show RV.tup [.c (.b false), .c (.i 1)] = RV.tup [.c (.b (decide (worldR w = true ∧ 0 ≤ i ∧ i < w.th.length) && canF w i)), .c (.i (if worldR w = true ∧ 0 ≤ i ∧ i < w.th.length then 0 else atErr w))]
  rw [decide_eq_false hn, if_neg hn, he]; rfl)
def sCanE : FSpec := sCanF1.or sCanF0
theorem canE_ok : Meets Tryz.prog 22 sCanE := meets_or sCanF1_ok sCanF0_ok
def sRightE : FSpec := spec (Gh 30 (Bool × Wd × Bool)) (fun ⟨(e, w, _)⟩ => [.agg (wdC e w)]) (fun ⟨(_, w, r)⟩ => SmallW w ∧ worldR w = r) fun ⟨(_, _, r)⟩ => .b r
theorem rightE_ok : Meets Tryz.prog 12 sRightE := meets_spec worldR_ok (fun ⟨(e, w, _)⟩ => (e, w)) (fun _ => rfl) (fun ⟨_⟩ h => h.1) (fun ⟨(e, w, r)⟩ h => by
  have h2 : worldR w = r := h.2
  show RV.s (.c (.b r)) = RV.s (.c (.b (worldR w)))
  rw [h2])
theorem rrightE_ok : Meets Tryz.prog 11 sRightE := meets_spec rworldR_ok (fun ⟨(e, w, _)⟩ => (e, w)) (fun _ => rfl) (fun ⟨_⟩ h => h.1) (fun ⟨(e, w, r)⟩ h => by
  have h2 : worldR w = r := h.2
  show RV.s (.c (.b r)) = RV.s (.c (.b (worldR w)))
  rw [h2])
def cutT (t : Th) : Th := ⟨t.pc, t.r0, t.r1, t.r2, t.r3, t.r4, t.r5, t.r6, t.r7, t.fs.take 8, t.st, t.fa, t.lf.take 10⟩
theorem map_takeC {l : List Th} {k : Nat} (hk : k < l.length) : (l.map cutT).take (k + 1) = (l.map cutT).take k ++ [cutT (l.getD k default)] := by
  rw [take_getD (d := default) (by simpa using hk)]
  simp [List.getD_eq_getElem?_getD, List.getElem?_map, List.getElem?_eq_getElem hk]
theorem any_take {p : Int → Bool} {l : List Int} {k : Nat} (hk : k < l.length) : (l.take (k + 1)).any p = ((l.take k).any p || p (l.getD k default)) := by
  rw [take_getD (d := default) hk, List.any_append]
  simp
def lastW (C : List Ins) (S M T : List Int) (d : Int) (L : List Th) : Wd := ⟨C, M, T, d, List.replicate S.length [], L.map cutT, []⟩
theorem last_small {C : List Ins} {S M T : List Int} {d : Int} {L : List Th} (hS : S.length ≤ 10) (hL : L.length ≤ 10) : SmallW (lastW C S M T d L) := by
  refine ⟨⟨?_, fun i => ?_⟩, ?_, fun i => ?_⟩
  · show (List.replicate S.length ([] : List Put)).length ≤ 1000000
    rw [List.length_replicate]; omega
  · show ((List.replicate S.length ([] : List Put)).getD i default).length ≤ 1000000
    by_cases hi : i < S.length
    · rw [List.getD_eq_getElem?_getD, List.getElem?_eq_getElem (by simpa using hi), Option.getD_some, List.getElem_replicate]; exact Nat.zero_le _
    · rw [List.getD_eq_getElem?_getD, List.getElem?_eq_none (by simpa using hi)]; exact Nat.zero_le _
  · show (L.map cutT).length ≤ 1000000
    rw [List.length_map]; omega
  · show SmallT ((L.map cutT).getD i default)
    by_cases hi : i < L.length
    · rw [List.getD_eq_getElem?_getD, List.getElem?_eq_getElem (by simpa using hi), Option.getD_some, List.getElem_map]
      exact ⟨Nat.le_trans (List.length_take_le _ _) (by decide), Nat.le_trans (List.length_take_le _ _) (by decide)⟩
    · rw [List.getD_eq_getElem?_getD, List.getElem?_eq_none (by simpa using hi)]; exact ⟨Nat.zero_le _, Nat.zero_le _⟩
def Le1 : List (Nat × FSpec) := [(10, sAlive8), (16, sMem8), (17, sNewP), (18, sCodeY), (19, sMemY), (20, sSameT), (21, sNew8), (12, sRightE), (11, sRightE), (22, sCanE)]
theorem Le1_ok : GOK Tryz.prog (tab Le1) := gok_cons alive8_ok (gok_cons mem8_ok (gok_cons newP_ok (gok_cons sCodeY_ok (gok_cons sMemY_ok (gok_cons sSameT_ok (gok_cons new8_ok (gok_cons rightE_ok (gok_cons rrightE_ok (gok_cons canE_ok (gok_nil _))))))))))
theorem CutE.goS2 {p : Gh 16 (Bool × Wd × Bool) → Prop} {code : List Ins} {ws ts : List Int} {d : Int} {l : List (List Put)} {th : List Th} {ev : List Ev} (h : p ⟨(true, ⟨code, ws, ts, d, l, th, ev⟩, true)⟩) : CutE (Gh 16 (Bool × Wd × Bool)) p := ⟨⟨_, h⟩⟩
def sLMakes : FSpec := spec (List Ins × List Int × List Int × List Int × Int × List Th) (fun (code, st, ws, ts, d, L) => [.c (codeS code), .c (intsS st), .c (intsS ws), .c (intsS ts), .i d, .c (thsS false L)]) (fun _ => True) fun _ => .b true
set_option maxHeartbeats 4000000 in
set_option maxRecDepth 100000 in
theorem lmakes_ok : Meets Tryz.prog 4 sLMakes := by
  refine meets_plain Le1_ok rfl [2, 9, 19, 24, 26] (fn := Tryz.f4) rfl rfl rfl (by decide) fun ⟨code, st, ws, ts, d, L⟩ _ => ?_
  (conv => whnf)
  apply CutP.upZ (G := Unit) (fun _ => True) [0, 1, 4, 5, 13] (fun _ => [(0, .s (.c (codeS (code.take 60)))), (1, .s (.c (intsS (st.take 10)))), (13, .s (.c (.ptr 0 0)))]) (fun _ => [(0, .row 26 (memC (ws.take 170) (ts.take 170)))]) 1
  apply And.intro
  · repeat' (first | exact @id (emp _ = true) | (intro h; first | exact Bool.noConfusion h | (simp only [Qn] at h) | skip) | ((conv => whnf) <;> (first | exact trivial | apply Qa | apply And.intro | (refine CutE.at (A := Unit) () ?_) | apply Qb | apply Qc | apply Qd | apply Qe | apply Qf | apply Qg | apply Qh | apply Qi | exact QA | exact QP | refine QG ?_ | apply Qj | apply Qk | apply Ql | apply Qm | apply Qo | apply Qp | apply Qw | apply Qv | apply Qu | apply Qt | apply Qs | apply Qr | apply Qq | apply Qx | apply wrapS | apply Qy | (with_reducible exact lenNil) | apply Eq.refl)) | ((with_reducible first | apply Y1 | apply Y2 | apply Y3 | show blkEq _ _ _); conv => whnf))
    all_goals first
      | omega
      | exact Int.le_refl _
      | exact take_lo (m := 60)
      | exact take_hi (m := 60)
      | exact take_len (m := 60)
      | (apply take_cell (m := 60); assumption)
      | exact take_lo (m := 10)
      | exact take_hi (m := 10)
      | exact take_len (m := 10)
      | (apply take_cell (m := 10); assumption)
      | trace_state
  intro _ _
  have hsl : (st.take 10).length ≤ 10 := List.length_take_le _ _
  generalize code.take 60 = C at *
  generalize st.take 10 = S at *
  generalize ws.take 170 = M at *
  generalize ts.take 170 = T at *
  repeat' (first | exact @id (emp _ = true) | (intro h; first | exact Bool.noConfusion h | (simp only [Qn] at h) | skip) | ((conv => whnf) <;> (first | exact trivial | apply Qa | apply And.intro | (refine CutE.at (A := NArg) (C, S, M, T, d) ?_) | apply Qb | apply Qc | apply Qd | apply Qe | apply Qf | apply Qg | apply Qh | apply Qi | exact QA | exact QP | refine QG ?_ | apply Qj | apply Qk | apply Ql | apply Qm | apply Qo | apply Qp | apply Qw | apply Qv | apply Qu | apply Qt | apply Qs | apply Qr | apply Qq | apply Qx | apply wrapS | apply Qy | (with_reducible exact lenNil) | apply Eq.refl)) | ((with_reducible first | apply Y1 | apply Y2 | apply Y3 | show blkEq _ _ _); conv => whnf))
  apply CutP.upZ (G := Wd × Int) (fun (W, e) => newP C S M T d = (W, e)) [0, 1, 4, 5, 13, 14, 15, 16] (fun (_, e) => [(13, .s (.c (.ptr 0 0))), (14, .s (.c (.ptr 1 0))), (15, .s (.c (.i e))), (16, .s (.c (.b (S.any (badS C.length)))))]) (fun (W, _) => [(0, .row 26 (memC M T)), (1, .row 33 (wdC true W))]) 2
  apply And.intro
  · apply LoopP.up (G := Nat) (fun k => k ≤ S.length) [0, 1, 4, 5, 13, 14, 15, 16, 44, 45, 46] (fun k => [(46, .i k), (16, .s (.c (.b ((S.take k).any (badS C.length)))))]) (fun _ => []) 2 (fun k => S.length - k)
    apply And.intro
    · refine CutE.at 0 ?_
      repeat' (first | exact @id (emp _ = true) | (intro h; first | exact Bool.noConfusion h | (simp only [Qn] at h) | skip) | ((conv => whnf) <;> (first | exact trivial | apply Qa | apply And.intro | apply EntP.id 2 | apply Qb | apply Qc | apply Qd | apply Qe | apply Qf | apply Qg | apply Qh | apply Qi | exact QA | exact QP | refine QG ?_ | apply Qj | apply Qk | apply Ql | apply Qm | apply Qo | apply Qp | apply Qw | apply Qv | apply Qu | apply Qt | apply Qs | apply Qr | apply Qq | apply Qx | apply wrapS | apply Qy | (with_reducible exact lenNil) | apply Eq.refl)) | ((with_reducible first | apply Y1 | apply Y2 | apply Y3 | show blkEq _ _ _); conv => whnf))
      all_goals first
        | omega
        | rfl
        | trace_state
    intro k hk
    have hk : k ≤ S.length := hk
    have e0 : (k : Int).toNat = k := Int.toNat_natCast k
    have hst : k < S.length → (S.take (k + 1)).any (badS C.length) = ((S.take k).any (badS C.length) || decide (S.getD (k : Int).toNat default < 0 ∨ S.getD (k : Int).toNat default > C.length)) := fun h => by rw [e0, any_take h]; rfl
    have hall : ¬ (k : Int) < S.length → S.take k = S := fun h => List.take_of_length_le (by omega)
    repeat' (first | exact @id (emp _ = true) | (intro h; first | exact Bool.noConfusion h | (simp only [Qn] at h) | skip) | ((conv => whnf) <;> (first | exact trivial | apply Qa | apply And.intro | (refine CutE.at (A := Nat) (k + 1) ?_) | (refine CutE.at (A := Wd × Int) (newP C S M T d) ?_) | apply EntP.id 2 | apply Qb | apply Qc | apply Qd | apply Qe | apply Qf | apply Qg | apply Qh | apply Qi | exact QA | exact QP | refine QG ?_ | apply Qj | apply Qk | apply Ql | apply Qm | apply Qo | apply Qp | apply Qw | apply Qv | apply Qu | apply Qt | apply Qs | apply Qr | apply Qq | apply Qx | apply wrapS | apply Qy | (with_reducible exact lenNil) | apply Eq.refl)) | ((with_reducible first | apply Y1 | apply Y2 | apply Y3 | show blkEq _ _ _); conv => whnf))
    all_goals first
      | (rw [hall (by assumption)])
      | omega
      | (show S.length - (k + 1) < S.length - k; omega)
      | (show k + 1 ≤ S.length; omega)
      | (rw [hst (by omega), ‹(S.take k).any (badS C.length) = true›]; rfl)
      | (rw [hst (by omega), ‹(S.take k).any (badS C.length) = false›, decide_eq_true (.inl (by assumption))]; rfl)
      | (rw [hst (by omega), ‹(S.take k).any (badS C.length) = false›, Bool.false_or]; congr 1; apply propext; omega)
      | trace_state
  rintro ⟨W, e⟩ hN
  have hN : newP C S M T d = (W, e) := hN
  cases hC : codeR C with
  | false =>
    have hN : W = wd0 ∧ e = 1 := by
      have h : newP C S M T d = (wd0, 1) := by unfold newP; rw [if_neg (fun h => by rw [hC] at h; exact Bool.noConfusion h.1)]
      rw [h] at hN
      exact ⟨(congrArg Prod.fst hN).symm, (congrArg Prod.snd hN).symm⟩
    obtain ⟨rfl, rfl⟩ := hN
    repeat' (first | exact @id (emp _ = true) | (intro h; first | exact Bool.noConfusion h | (simp only [Qn] at h) | skip) | ((conv => whnf) <;> (first | exact trivial | apply Qa | apply And.intro | (apply CallP.nb; apply CutE.gh (n := 26) (C, false)) | (apply CallP.nb; apply CutE.gh (n := 16) (true, wd0, true)) | apply Qb | apply Qc | apply Qd | apply Qe | apply Qf | apply Qg | apply Qh | apply Qi | exact QA | exact QP | refine QG ?_ | apply Qj | apply Qk | apply Ql | apply Qm | apply Qo | apply Qp | apply Qw | apply Qv | apply Qu | apply Qt | apply Qs | apply Qr | apply Qq | apply Qx | apply wrapS | apply Qy | (with_reducible exact lenNil) | apply Eq.refl)) | ((with_reducible first | apply Y1 | apply Y2 | apply Y3 | show blkEq _ _ _); conv => whnf))
    all_goals first
      | exact hC
      | exact hM
      | exact smallY0
      | omega
      | (exfalso; omega)
      | trace_state
  | true =>
    cases hM : memR M T with
    | false =>
      have hN : W = wd0 ∧ e = 1 := by
        have h : newP C S M T d = (wd0, 1) := by unfold newP; rw [if_neg (fun h => by rw [hM] at h; exact Bool.noConfusion h.2)]
        rw [h] at hN
        exact ⟨(congrArg Prod.fst hN).symm, (congrArg Prod.snd hN).symm⟩
      obtain ⟨rfl, rfl⟩ := hN
      repeat' (first | exact @id (emp _ = true) | (intro h; first | exact Bool.noConfusion h | (simp only [Qn] at h) | skip) | ((conv => whnf) <;> (first | exact trivial | apply Qa | apply And.intro | (apply CallP.nb; apply CutE.gh (n := 26) (C, true)) | (apply CallP.nb; apply CutE.gh (n := 27) (M, T, false)) | (apply CallP.nb; apply CutE.gh (n := 16) (true, wd0, true)) | apply Qb | apply Qc | apply Qd | apply Qe | apply Qf | apply Qg | apply Qh | apply Qi | exact QA | exact QP | refine QG ?_ | apply Qj | apply Qk | apply Ql | apply Qm | apply Qo | apply Qp | apply Qw | apply Qv | apply Qu | apply Qt | apply Qs | apply Qr | apply Qq | apply Qx | apply wrapS | apply Qy | (with_reducible exact lenNil) | apply Eq.refl)) | ((with_reducible first | apply Y1 | apply Y2 | apply Y3 | show blkEq _ _ _); conv => whnf))
      all_goals first
        | exact hC
        | exact hM
        | exact smallY0
        | omega
        | (exfalso; omega)
        | trace_state
    | true =>
      by_cases hZ : 1 ≤ S.length ∧ S.length ≤ 8 ∧ 0 ≤ d ∧ d ≤ 8
      rotate_left 1
      · have hN : W = wd0 ∧ e = 2 := by
          have h : newP C S M T d = (wd0, 2) := by unfold newP; rw [if_pos ⟨hC, hM⟩, if_neg (fun h => hZ (by have := sizesF_iff.1 h; omega))]
          rw [h] at hN
          exact ⟨(congrArg Prod.fst hN).symm, (congrArg Prod.snd hN).symm⟩
        obtain ⟨rfl, rfl⟩ := hN
        repeat' (first | exact @id (emp _ = true) | (intro h; first | exact Bool.noConfusion h | (simp only [Qn] at h) | skip) | ((conv => whnf) <;> (first | exact trivial | apply Qa | apply And.intro | (exfalso; omega) | (apply CallP.nb; apply CutE.gh (n := 26) (C, true)) | (apply CallP.nb; apply CutE.gh (n := 27) (M, T, true)) | (apply CallP.nb; apply CutE.gh (n := 16) (true, wd0, true)) | apply Qb | apply Qc | apply Qd | apply Qe | apply Qf | apply Qg | apply Qh | apply Qi | exact QA | exact QP | refine QG ?_ | apply Qj | apply Qk | apply Ql | apply Qm | apply Qo | apply Qp | apply Qw | apply Qv | apply Qu | apply Qt | apply Qs | apply Qr | apply Qq | apply Qx | apply wrapS | apply Qy | (with_reducible exact lenNil) | apply Eq.refl)) | ((with_reducible first | apply Y1 | apply Y2 | apply Y3 | show blkEq _ _ _); conv => whnf))
        all_goals first
          | exact hC
          | exact hM
          | exact smallY0
          | omega
          | (exfalso; omega)
          | trace_state
      have hsz : sizesF S.length d = true := sizesF_iff.2 (by omega)
      cases hB : S.any (badS C.length) with
      | true =>
        have hN : W = wd0 ∧ e = 3 := by
          have h : newP C S M T d = (wd0, 3) := by unfold newP; rw [if_pos ⟨hC, hM⟩, if_pos hsz, if_pos hB]
          rw [h] at hN
          exact ⟨(congrArg Prod.fst hN).symm, (congrArg Prod.snd hN).symm⟩
        obtain ⟨rfl, rfl⟩ := hN
        repeat' (first | exact @id (emp _ = true) | (intro h; first | exact Bool.noConfusion h | (simp only [Qn] at h) | skip) | ((conv => whnf) <;> (first | exact trivial | apply Qa | apply And.intro | (exfalso; omega) | (apply CallP.nb; apply CutE.gh (n := 26) (C, true)) | (apply CallP.nb; apply CutE.gh (n := 27) (M, T, true)) | (apply CallP.nb; apply CutE.gh (n := 16) (true, wd0, true)) | apply Qb | apply Qc | apply Qd | apply Qe | apply Qf | apply Qg | apply Qh | apply Qi | exact QA | exact QP | refine QG ?_ | apply Qj | apply Qk | apply Ql | apply Qm | apply Qo | apply Qp | apply Qw | apply Qv | apply Qu | apply Qt | apply Qs | apply Qr | apply Qq | apply Qx | apply wrapS | apply Qy | (with_reducible exact lenNil) | apply Eq.refl)) | ((with_reducible first | apply Y1 | apply Y2 | apply Y3 | show blkEq _ _ _); conv => whnf))
        all_goals first
          | exact hC
          | exact hM
          | exact smallY0
          | omega
          | (exfalso; omega)
          | trace_state
      | false =>
        have hN : W = newW C S M T d ∧ e = 0 := by
          have h : newP C S M T d = (newW C S M T d, 0) := by unfold newP; rw [if_pos ⟨hC, hM⟩, if_pos hsz, if_neg (by rw [hB]; exact Bool.noConfusion)]
          rw [h] at hN
          exact ⟨(congrArg Prod.fst hN).symm, (congrArg Prod.snd hN).symm⟩
        obtain ⟨rfl, rfl⟩ := hN
        have hR : worldR (newW C S M T d) = true := by
          refine new_right hC hM (by omega) (by omega) fun s hs => ?_
          have := List.any_eq_false.1 hB s hs
          unfold badS at this
          simp only [decide_eq_true_eq] at this
          omega
        have hY : SmallY (newW C S M T d) := smallY hR (Nat.zero_le _)
        repeat' (first | exact @id (emp _ = true) | (intro h; first | exact Bool.noConfusion h | (simp only [Qn] at h) | skip) | ((conv => whnf) <;> (first | exact trivial | apply Qa | apply And.intro | (exfalso; omega) | (apply CallP.nb; apply CutE.gh (n := 26) (C, true)) | (apply CallP.nb; apply CutE.gh (n := 27) (M, T, true)) | apply Qb | apply Qc | apply Qd | apply Qe | apply Qf | apply Qg | apply Qh | apply Qi | exact QA | exact QP | refine QG ?_ | apply Qj | apply Qk | apply Ql | apply Qm | apply Qo | apply Qp | apply Qw | apply Qv | apply Qu | apply Qt | apply Qs | apply Qr | apply Qq | apply Qx | apply wrapS | apply Qy | (with_reducible exact lenNil) | apply Eq.refl)) | ((with_reducible first | apply Y1 | apply Y2 | apply Y3 | show blkEq _ _ _); conv => whnf))
        all_goals try first
          | exact hC
          | exact hM
          | omega
          | (exfalso; exact Bool.noConfusion (hB.symm.trans (by assumption)))
        apply CutP.upZ (G := Unit) (fun _ => True) [5, 14] (fun _ => [(14, .s (.c (.ptr 0 0)))]) (fun _ => [(0, .row 33 (wdC true (newW C S M T d)))]) 1
        apply And.intro
        · repeat' (first | exact @id (emp _ = true) | (intro h; first | exact Bool.noConfusion h | (simp only [Qn] at h) | skip) | ((conv => whnf) <;> (first | exact trivial | apply Qa | apply And.intro | (apply CallP.nb; apply CutE.gh (n := 16) (true, newW C S M T d, true)) | (apply CallP.nb; apply CutE.gh (n := 30) (true, newW C S M T d, true)) | (refine CutE.at (A := NArg) (C, S, M, T, d) ?_) | (refine CutE.at (A := Unit) () ?_) | (refine EntP.at [] [1] ?_) | apply Qb | apply Qc | apply Qd | apply Qe | apply Qf | apply Qg | apply Qh | apply Qi | exact QA | exact QP | refine QG ?_ | apply Qj | apply Qk | apply Ql | apply Qm | apply Qo | apply Qp | apply Qw | apply Qv | apply Qu | apply Qt | apply Qs | apply Qr | apply Qq | apply Qx | apply wrapS | apply Qy | (with_reducible exact lenNil) | apply Eq.refl)) | ((with_reducible first | apply Y1 | apply Y2 | apply Y3 | show blkEq _ _ _); conv => whnf))
          all_goals first
            | exact hY
            | exact ⟨hY.s, hR⟩
            | exact hY.s
            | exact hR
            | omega
            | exact True.intro
            | trace_state
        clear hY hR hsz hB hN
        intro _ _
        have hLl : (L.take 10).length ≤ 10 := List.length_take_le _ _
        have hsm := last_small (C := C) (M := M) (T := T) (d := d) (L := L.take 10) hsl hLl
        repeat' (first | exact @id (emp _ = true) | (intro h; first | exact Bool.noConfusion h | (simp only [Qn] at h) | skip) | ((conv => whnf) <;> (first | exact trivial | apply Qa | apply And.intro | apply Qb | apply Qc | apply Qd | apply Qe | apply Qf | apply Qg | apply Qh | apply Qi | exact QA | exact QP | refine QG ?_ | apply Qj | apply Qk | apply Ql | apply Qm | apply Qo | apply Qp | apply Qw | apply Qv | apply Qu | apply Qt | apply Qs | apply Qr | apply Qq | apply Qx | apply wrapS | apply Qy | (with_reducible exact lenNil) | apply Eq.refl)) | ((with_reducible first | apply Y1 | apply Y2 | apply Y3 | show blkEq _ _ _); conv => whnf))
        apply CutP.upZ (G := Unit) (fun _ => True) [14] (fun _ => [(14, .s (.c (.ptr 0 0)))]) (fun _ => [(0, .row 33 (wdC false (lastW C S M T d (L.take 10))))]) 1
        apply And.intro
        · repeat' (first | exact @id (emp _ = true) | (intro h; first | exact Bool.noConfusion h | (simp only [Qn] at h) | skip) | ((conv => whnf) <;> (first | exact trivial | apply Qa | apply And.intro | apply Qb | apply Qc | apply Qd | apply Qe | apply Qf | apply Qg | apply Qh | apply Qi | exact QA | exact QP | refine QG ?_ | apply Qj | apply Qk | apply Ql | apply Qm | apply Qo | apply Qp | apply Qw | apply Qv | apply Qu | apply Qt | apply Qs | apply Qr | apply Qq | apply Qx | apply wrapS | apply Qy | (with_reducible exact lenNil) | apply Eq.refl)) | ((with_reducible first | apply Y1 | apply Y2 | apply Y3 | show blkEq _ _ _); conv => whnf))
          all_goals try first
            | omega
            | exact Int.le_refl _
            | exact take_lo (m := 10)
            | exact take_hi (m := 10)
          have hml : ((L.take 10).map cutT).length = (L.take 10).length := List.length_map _
          apply LoopP.up (G := Nat) (fun k => k ≤ (L.take 10).length) [14, 135, 136, 137] (fun k => [(137, .i k), (135, .s (.c (thsS false (L.take 10)))), (136, .s (.c (.i (L.take 10).length)))]) (fun k => [(0, .row 33 [codeS C, intsS M, intsS T, .i d, bufsS (List.replicate S.length []), .osl 1, evsS []]), (1, .slc 44 13 k (slG (thE false) (((L.take 10).map cutT).take k)))]) 2 (fun k => (L.take 10).length - k)
          apply And.intro
          · refine CutE.at 0 ⟨EntP.at [⟨true, 0, 5, 44, 13⟩] [0, 1] ?_, ?_⟩
            all_goals repeat' (first | exact @id (emp _ = true) | (intro h; first | exact Bool.noConfusion h | (simp only [Qn] at h) | skip) | ((conv => whnf) <;> (first | exact trivial | apply Qa | apply And.intro | apply Qb | apply Qc | apply Qd | apply Qe | apply Qf | apply Qg | apply Qh | apply Qi | exact QA | exact QP | refine QG ?_ | apply Qj | apply Qk | apply Ql | apply Qm | apply Qo | apply Qp | apply Qw | apply Qv | apply Qu | apply Qt | apply Qs | apply Qr | apply Qq | apply Qx | apply wrapS | apply Qy | (with_reducible exact lenNil) | apply Eq.refl)) | ((with_reducible first | apply Y1 | apply Y2 | apply Y3 | show blkEq _ _ _); conv => whnf))
            all_goals first
              | omega
              | exact take_len (m := 10)
              | exact congrArg Nat.cast (take_len (m := 10))
              | (apply take_cell (m := 10); assumption)
              | exact Nat.zero_le _
              | (rename_i i hi t; exact absurd hi (Nat.not_lt_zero _))
              | trace_state
          intro k hk
          have hk : k ≤ (L.take 10).length := hk
          have e0 : (k : Int).toNat = k := Int.toNat_natCast k
          have hall : ¬ (k : Int) < (L.take 10).length → ((L.take 10).map cutT).take k = (L.take 10).map cutT := fun h => List.take_of_length_le (by omega)
          repeat' (first | exact @id (emp _ = true) | (intro h; first | exact Bool.noConfusion h | (simp only [Qn] at h) | skip) | ((conv => whnf) <;> (first | exact trivial | apply Qa | apply And.intro | (refine CutE.at (A := Unit) () ?_) | (refine EntP.at [⟨true, 0, 5, 0, 0⟩] [0] ?_) | apply Qb | apply Qc | apply Qd | apply Qe | apply Qf | apply Qg | apply Qh | apply Qi | exact QA | exact QP | refine QG ?_ | apply Qj | apply Qk | apply Ql | apply Qm | apply Qo | apply Qp | apply Qw | apply Qv | apply Qu | apply Qt | apply Qs | apply Qr | apply Qq | apply Qx | apply wrapS | apply Qy | (with_reducible exact lenNil) | apply Eq.refl)) | ((with_reducible first | apply Y1 | apply Y2 | apply Y3 | show blkEq _ _ _); conv => whnf))
          all_goals try first
            | omega
            | exact True.intro
            | (show ((L.take 10).map cutT).length = k; omega)
            | (show slG (thE false) ((L.take 10).map cutT) _ _ = _; rw [hall (by assumption)])
          have hlt : k < (L.take 10).length := by omega
          apply CutP.upZ (G := Unit) (fun _ => True) [14, 20, 135, 136, 137] (fun _ => [(14, .s (.c (.ptr 0 0))), (20, .s (.c (.ptr 2 0)))]) (fun _ => [(0, .row 33 [codeS C, intsS M, intsS T, .i d, bufsS (List.replicate S.length []), .osl 1, evsS []]), (1, .slc 44 13 k (slG (thE false) (((L.take 10).map cutT).take k))), (2, .row 44 (thE false (cutT ((L.take 10).getD (k : Int).toNat default))))]) 3
          apply And.intro
          · repeat' (first | exact @id (emp _ = true) | (intro h; first | exact Bool.noConfusion h | (simp only [Qn] at h) | skip) | ((conv => whnf) <;> (first | exact trivial | apply Qa | apply And.intro | (refine CutE.at (A := Unit) () ?_) | apply Qb | apply Qc | apply Qd | apply Qe | apply Qf | apply Qg | apply Qh | apply Qi | exact QA | exact QP | refine QG ?_ | apply Qj | apply Qk | apply Ql | apply Qm | apply Qo | apply Qp | apply Qw | apply Qv | apply Qu | apply Qt | apply Qs | apply Qr | apply Qq | apply Qx | apply wrapS | apply Qy | (with_reducible exact lenNil) | apply Eq.refl)) | ((with_reducible first | apply Y1 | apply Y2 | apply Y3 | show blkEq _ _ _); conv => whnf))
            all_goals first
              | omega
              | exact True.intro
              | exact Int.le_refl _
              | exact take_lo (m := 8)
              | exact take_hi (m := 8)
              | exact take_len (m := 8)
              | (apply take_cell (m := 8); assumption)
              | exact take_lo (m := 10)
              | exact take_hi (m := 10)
              | exact take_len (m := 10)
              | (apply take_cell (m := 10); assumption)
              | trace_state
          · intro _ _
            have hsn : ((L.take 10).map cutT).take (k + 1) = ((L.take 10).map cutT).take k ++ [cutT ((L.take 10).getD (k : Int).toNat default)] := by rw [e0]; exact map_takeC hlt
            repeat' (first | exact @id (emp _ = true) | (intro h; first | exact Bool.noConfusion h | (simp only [Qn] at h) | skip) | ((conv => whnf) <;> (first | exact trivial | apply Qa | apply And.intro | (refine CutE.at (A := Nat) (k + 1) ?_) | (refine EntP.at [] [0, 4] ?_) | apply Qb | apply Qc | apply Qd | apply Qe | apply Qf | apply Qg | apply Qh | apply Qi | exact QA | exact QP | refine QG ?_ | apply Qj | apply Qk | apply Ql | apply Qm | apply Qo | apply Qp | apply Qw | apply Qv | apply Qu | apply Qt | apply Qs | apply Qr | apply Qq | apply Qx | apply wrapS | apply Qy | (with_reducible exact lenNil) | apply Eq.refl)) | ((with_reducible first | apply Y1 | apply Y2 | apply Y3 | show blkEq _ _ _); conv => whnf))
            all_goals first
              | omega
              | (show (k + 1) * 136 ≤ _; omega)
              | (show (L.take 10).length - (k + 1) < (L.take 10).length - k; omega)
              | (show k + 1 ≤ (L.take 10).length; omega)
              | (rw [hsn]; exact (slG_snoc (enc := thE false) (k := 13) (x := cutT ((L.take 10).getD (k : Int).toNat default)) (by rw [List.length_take]; omega) rfl _ (by assumption) _ (by assumption)).symm)
              | trace_state
        · intro _ _
          cases hW : worldR (lastW C S M T d (L.take 10)) with
          | true =>
            have hln := world_len hW
            repeat' (first | exact @id (emp _ = true) | (intro h; first | exact Bool.noConfusion h | (simp only [Qn] at h) | skip) | ((conv => whnf) <;> (first | exact trivial | apply Qa | apply And.intro | (apply CallP.inl; apply CallP.nb; apply CutE.gh (n := 28) (false, lastW C S M T d (L.take 10), 0)) | (apply CallP.nb; apply CutE.gh (n := 30) (false, lastW C S M T d (L.take 10), true)) | apply Qb | apply Qc | apply Qd | apply Qe | apply Qf | apply Qg | apply Qh | apply Qi | exact QA | exact QP | refine QG ?_ | apply Qj | apply Qk | apply Ql | apply Qm | apply Qo | apply Qp | apply Qw | apply Qv | apply Qu | apply Qt | apply Qs | apply Qr | apply Qq | apply Qx | apply wrapS | apply Qy | (with_reducible exact lenNil) | apply Eq.refl)) | ((with_reducible first | apply Y1 | apply Y2 | apply Y3 | show blkEq _ _ _); conv => whnf))
            all_goals first
              | exact ⟨hsm, hW⟩
              | exact hsm
              | exact hW
              | exact ⟨hsm, hW, Int.le_refl _, by omega⟩
              | exact Int.le_refl _
              | omega
              | trace_state
          | false =>
            repeat' (first | exact @id (emp _ = true) | (intro h; first | exact Bool.noConfusion h | (simp only [Qn] at h) | skip) | ((conv => whnf) <;> (first | exact trivial | apply Qa | apply And.intro | (apply CallP.inr; apply CallP.nb; apply CutE.gh (n := 29) (false, lastW C S M T d (L.take 10), 0)) | (apply CallP.nb; apply CutE.gh (n := 30) (false, lastW C S M T d (L.take 10), false)) | apply Qb | apply Qc | apply Qd | apply Qe | apply Qf | apply Qg | apply Qh | apply Qi | exact QA | exact QP | refine QG ?_ | apply Qj | apply Qk | apply Ql | apply Qm | apply Qo | apply Qp | apply Qw | apply Qv | apply Qu | apply Qt | apply Qs | apply Qr | apply Qq | apply Qx | apply wrapS | apply Qy | (with_reducible exact lenNil) | apply Eq.refl)) | ((with_reducible first | apply Y1 | apply Y2 | apply Y3 | show blkEq _ _ _); conv => whnf))
            all_goals first
              | exact ⟨hsm, hW⟩
              | exact hsm
              | exact hW
              | omega
              | trace_state
end Go.Eng
