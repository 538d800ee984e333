/- A thread halts; contracts that tell one case only (for StepBroad, which asks no flush of the program's). -/
import Derived.Test.YtgahcoccodhkmaaGreatStY
import Derived.Test.YtgahcoccodhkmaaGreatStN1
import Derived.Test.YtgahcoccodhkmaaGreatStWl
set_option linter.unusedVariables false
set_option linter.unusedSimpArgs false
namespace Go.Eng
open Go Go.Proofs

def code0 : List Ins := [(1, 1, 7, 0), (0, 0, 0, 0)]
def wA : Wd := newW code0 [0] [0] [1] 0
def wB : Wd := ⟨code0, [0], [1], 0, [[]], [⟨1, 0, 7, 0, 0, 0, 0, 0, 0, [], 0, 0, []⟩], []⟩
def wC : Wd := ⟨code0, [0], [1], 0, [[]], [⟨1, 0, 7, 0, 0, 0, 0, 0, 0, [], 1, 0, []⟩], []⟩
set_option maxRecDepth 10000 in
theorem al0 : newP code0 [0] [0] [1] 0 = (wA, 0) := by decide +kernel
set_option maxRecDepth 10000 in
theorem al1 : stepR wA 0 = (wB, 0) := by decide +kernel
set_option maxRecDepth 10000 in
theorem al2 : stepR wB 0 = (wC, 0) := by decide +kernel
theorem alR {w : Wd} (h : worldR w = true) : SmallW w := world_small h
theorem lit_code0 : ∀ i, i < 2 → ∀ t, t < 4 → slG encIns code0 i t = litG 4 [Cell.v (Value.int IntKind.i64 1), Cell.v (Value.int IntKind.i64 1), Cell.v (Value.int IntKind.i64 7), Cell.v (Value.int IntKind.i64 0), Cell.v (Value.int IntKind.i64 0), Cell.v (Value.int IntKind.i64 0), Cell.v (Value.int IntKind.i64 0), Cell.v (Value.int IntKind.i64 0)] i t := by
  intro i hi t ht
  have h1 : i = 0 ∨ i = 1 := by omega
  have h2 : t = 0 ∨ t = 1 ∨ t = 2 ∨ t = 3 := by omega
  rcases h1 with rfl | rfl <;> rcases h2 with rfl | rfl | rfl | rfl <;> rfl
def sAlive8 : FSpec := spec Unit (fun _ => []) (fun _ => True) fun _ => .b true
def Al1 : List (Nat × FSpec) := [(17, sNewP), (9, sStepP)]
theorem Al1_ok : GOK Tryz.prog (tab Al1) := gok_cons newP_ok (gok_cons stepP_ok (gok_nil _))
set_option maxHeartbeats 1000000 in
set_option maxRecDepth 100000 in
theorem alive8_ok : Meets Tryz.prog 10 sAlive8 := by
  refine meets_plain Al1_ok rfl [] (fn := Tryz.f10) rfl rfl rfl (by decide) fun _ _ => ?_
  have hA : worldR (newP code0 [0] [0] [1] 0).1 = true := by rw [al0]; decide +kernel
  have hB : worldR (stepR (newP code0 [0] [0] [1] 0).1 0).1 = true := by rw [al0, al1]; decide +kernel
  have n0 : (newP code0 [0] [0] [1] 0).2 = 0 := by rw [al0]
  have n1 : (stepR (newP code0 [0] [0] [1] 0).1 0).2 = 0 := by rw [al0, al1]
  have n2 : stepR (stepR (newP code0 [0] [0] [1] 0).1 0).1 0 = (wC, 0) := by rw [al0, al1, al2]
  have eA : (newP code0 [0] [0] [1] 0).1.ev.length ≤ 1000000 := by rw [al0]; decide
  have eB : (stepR (newP code0 [0] [0] [1] 0).1 0).1.ev.length ≤ 1000000 := by rw [al0, al1]; decide
  repeat' (first | exact @id (emp _ = true) | (intro h; first | exact Bool.noConfusion h | (simp only [Qn] at h) | skip) | ((conv => whnf) <;> (first | exact trivial | apply Qa | apply And.intro | (refine CutE.at (A := List Ins × List Int × List Int × List Int × Int) (code0, [0], [0], [1], 0) ?_) | apply CutE.goWdI | apply Qb | apply Qc | apply Qd | apply Qe | apply Qf | apply Qg | apply Qh | apply Qi | exact QA | exact QP | refine QG ?_ | apply Qj | apply Qk | apply Ql | apply Qm | apply Qo | apply Qp | apply Qw | apply Qv | apply Qu | apply Qt | apply Qs | apply Qr | apply Qq | apply Qx | apply wrapS | apply Qy | (with_reducible exact lenNil) | apply Eq.refl)) | ((with_reducible first | apply Y1 | apply Y2 | apply Y3 | show blkEq _ _ _); conv => whnf))
  all_goals first
    | exact (slG_lit (enc := encI) (k := 1) rfl _ (by assumption) _ (by assumption)).symm
    | exact (slG_lit (enc := encIns) (k := 4) rfl _ (by assumption) _ (by assumption)).symm
    | exact (world_small hA)
    | exact (world_small hB)
    | exact lit_code0 _ (by assumption) _ (by assumption)
    | exact Int.le_refl _
    | decide
    | (show 0 < (((stepR (stepR (newP code0 [0] [0] [1] 0).1 0).1 0).1.th.length : Nat) : Int); rw [n2]; decide)
    | exact eA
    | exact eB
    | trace_state
end Go.Eng
namespace Go.Eng
open Go Go.Proofs

theorem smallY {w : Wd} (h : worldR w = true) (he : w.ev.length ≤ 1000000) : SmallY w := by
  have hm := memR_iff.1 (tsoR_iff.1 (worldR_iff.1 h).2.1).1
  have hc := (codeR_iff.1 (worldR_iff.1 h).1).1
  exact ⟨world_small h, by omega, he, by omega, by omega⟩
theorem smallY0 : SmallY wd0 := by
  have h1 : ∀ i, wd0.l.getD i default = [] := fun i => by show ([] : List (List Put)).getD i default = []; rw [List.getD_eq_getElem?_getD]; rfl
  have h2 : ∀ i, wd0.th.getD i default = th0 := fun i => by show ([] : List Th).getD i default = th0; rw [List.getD_eq_getElem?_getD]; rfl
  exact ⟨⟨⟨Nat.zero_le _, fun i => by rw [h1 i]; exact Nat.zero_le _⟩, Nat.zero_le _, fun i => by rw [h2 i]; exact ⟨Nat.zero_le _, Nat.zero_le _⟩⟩, Nat.zero_le _, Nat.zero_le _, Nat.zero_le _, Nat.zero_le _⟩
theorem sameW_self (w : Wd) : sameW w w = true := decide_eq_true rfl
theorem CutE.goS0 {p : Bool × Wd × Bool × Wd → Prop} {code : List Ins} {ws ts : List Int} {d : Int} {l : List (List Put)} {th : List Th} {ev : List Ev} (h : p (true, ⟨code, ws, ts, d, l, th, ev⟩, true, wd0)) : CutE (Bool × Wd × Bool × Wd) p := ⟨⟨_, h⟩⟩
theorem CutE.goSS {p : Bool × Wd × Bool × Wd → Prop} {code : List Ins} {ws ts : List Int} {d : Int} {l : List (List Put)} {th : List Th} {ev : List Ev} {code' : List Ins} {ws' ts' : List Int} {d' : Int} {l' : List (List Put)} {th' : List Th} {ev' : List Ev}
  (h : p (true, ⟨code, ws, ts, d, l, th, ev⟩, true, ⟨code', ws', ts', d', l', th', ev'⟩)) : CutE (Bool × Wd × Bool × Wd) p := ⟨⟨_, h⟩⟩
/-- What the law asks of a world. -/
structure Wok (w : Wd) : Prop where
  r : worldR w = true
  ev : w.ev.length ≤ 1000
theorem Wok.y {w : Wd} (h : Wok w) : SmallY w := smallY h.r (Nat.le_trans h.ev (by decide))
theorem Wok.s {w : Wd} (h : Wok w) : SmallW w := world_small h.r
theorem Wok.e {w : Wd} (h : Wok w) : w.ev.length ≤ 1000000 := Nat.le_trans h.ev (by decide)
theorem world_wok (code : List Ins) (st ws ts : List Int) (d : Int) (acts : List Act) : Wok (worldF code st ws ts d acts) := by
  obtain ⟨h1, h2⟩ := world_kept code st ws ts d acts
  exact ⟨h1, by omega⟩
theorem atErr_in {w : Wd} (h : worldR w = true) : atErr w = 3 := by unfold atErr; rw [if_pos h]
theorem stepR_no {w : Wd} {i : Int} (h : worldR w = true) (hh : hasW w i = false) : stepR w i = (wd0, 3) := by
  unfold stepR
  rw [if_neg (fun hp => by rw [hasW_iff.2 hp.2] at hh; cases hh), atErr_in h]
theorem stepR_go {w : Wd} {i : Int} (h : worldR w = true) (hh : hasW w i = true) (hc : canF w i = true) : stepR w i = (stepF w i, 0) := by
  unfold stepR; rw [if_pos ⟨h, hasW_iff.1 hh⟩, if_pos hc]
theorem stepR_wait {w : Wd} {i : Int} (h : worldR w = true) (hh : hasW w i = true) (hc : canF w i = false) : stepR w i = (wd0, 9) := by
  unfold stepR; rw [if_pos ⟨h, hasW_iff.1 hh⟩, if_neg (by rw [hc]; exact Bool.noConfusion)]
theorem stepF_wok {w : Wd} {i : Int} (h : Wok w) (hh : hasW w i = true) (hc : canF w i = true) : worldR (stepF w i) = true ∧ (stepF w i).ev.length ≤ w.ev.length + 1 := by
  have hk := step_keeps ⟨h.r, hasW_iff.1 hh⟩ (can_st hc)
  obtain ⟨e, he, hl⟩ := hk.ev
  exact ⟨hk.r, by rw [he, List.length_append]; omega⟩
theorem stepR_y {w : Wd} (h : Wok w) (i : Int) : SmallY (stepR w i).1 := by
  have := h.ev
  cases hh : hasW w i with
  | false => rw [stepR_no h.r hh]; exact smallY0
  | true =>
    cases hc : canF w i with
    | false => rw [stepR_wait h.r hh hc]; exact smallY0
    | true =>
      obtain ⟨k1, k2⟩ := stepF_wok h hh hc
      rw [stepR_go h.r hh hc]; exact smallY k1 (Nat.le_trans k2 (by omega))
theorem flushF_wok {w : Wd} {i : Int} (h : Wok w) (hh : hasW w i = true) : Wok (flushF w i) := by
  have hk := flush_keeps ⟨h.r, hasW_iff.1 hh⟩
  exact ⟨hk.r, by rw [hk.ev]; exact h.ev⟩
/-- A contract that says less. -/
theorem meets_spec {P : Program} {f : FuncId} {G H : Type} {args : G → List RV} {pre : G → Prop} {res : G → RV} {args' : H → List RV} {pre' : H → Prop} {res' : H → RV} (h : Meets P f (spec G args pre res)) (φ : H → G)
    (ha : ∀ x, args' x = args (φ x)) (hp : ∀ x, pre' x → pre (φ x)) (hr : ∀ x, pre' x → res' x = res (φ x)) : Meets P f (spec H args' pre' res') where
  pn := fun _ _ _ h => by cases h
  qn := fun _ _ _ h => by cases h
  full := fun _ j h => by cases h
  kp := fun _ _ _ h => by cases h
  body := h.body
  iter := fun γ n item h => by cases h
  run := fun x _ hx F hs w vals hn hargs hw => by
    have hargs : ArgsRel (Osum F hs (look [])) w hs (args' x) vals := hargs
    rw [ha x] at hargs
    have := h.run (φ x) rfl (hp x hx) F hs w vals hn hargs hw
    show Calls P f vals w fun e w' => ∃ v, EndsAs none e v ∧ Post F hs (look []) w (res' x) (look []) _ _ v w'
    rw [hr x hx]
    exact this
/-- Ghosts of a case. -/
structure Gh (n : Nat) (A : Type) where
  a : A
theorem CutE.gh {n : Nat} {A : Type} {p : Gh n A → Prop} (a : A) (h : p ⟨a⟩) : CutE (Gh n A) p := ⟨⟨_, h⟩⟩
structure In8 (w : Wd) (i : Int) : Prop where
  k : Wok w
  h : hasW w i = true
structure Out8 (w : Wd) (i : Int) : Prop where
  k : Wok w
  h : hasW w i = false
theorem In8.p {w : Wd} {i : Int} (h : In8 w i) : worldR w = true ∧ 0 ≤ i ∧ i < w.th.length := ⟨h.k.r, hasW_iff.1 h.h⟩
theorem In8.o {w : Wd} {i : Int} (h : In8 w i) : WOk w i := ⟨h.k.r, hasW_iff.1 h.h⟩
theorem Out8.p {w : Wd} {i : Int} (h : Out8 w i) : ¬ (worldR w = true ∧ 0 ≤ i ∧ i < w.th.length) := fun hp => by
  have := h.h
  rw [hasW_iff.2 hp.2] at this; cases this
def sCanY : FSpec := spec (Gh 1 (Wd × Int)) (fun ⟨(w, i)⟩ => [.agg (wdC true w), .i i]) (fun ⟨(w, i)⟩ => In8 w i ∧ canF w i = true) fun ⟨(w, i)⟩ => .tup [.c (.b true), .c (.i 0)]
theorem sCanY_ok : Meets Tryz.prog 22 sCanY := meets_spec canP_ok (fun ⟨(w, i)⟩ => (true, w, i)) (fun ⟨_⟩ => rfl) (fun ⟨(w, i)⟩ h => Wok.s h.1.k) (fun ⟨(w, i)⟩ h => by
  show RV.tup [.c (.b true), .c (.i 0)] = RV.tup [.c (.b (decide (worldR w = true ∧ 0 ≤ i ∧ i < w.th.length) && canF w i)), .c (.i (if worldR w = true ∧ 0 ≤ i ∧ i < w.th.length then 0 else atErr w))]
  rw [decide_eq_true h.1.p, if_pos h.1.p, h.2]; rfl)
def sCanN : FSpec := spec (Gh 2 (Wd × Int)) (fun ⟨(w, i)⟩ => [.agg (wdC true w), .i i]) (fun ⟨(w, i)⟩ => In8 w i ∧ canF w i = false) fun ⟨(w, i)⟩ => .tup [.c (.b false), .c (.i 0)]
theorem sCanN_ok : Meets Tryz.prog 22 sCanN := meets_spec canP_ok (fun ⟨(w, i)⟩ => (true, w, i)) (fun ⟨_⟩ => rfl) (fun ⟨(w, i)⟩ h => Wok.s h.1.k) (fun ⟨(w, i)⟩ h => by
  show RV.tup [.c (.b false), .c (.i 0)] = RV.tup [.c (.b (decide (worldR w = true ∧ 0 ≤ i ∧ i < w.th.length) && canF w i)), .c (.i (if worldR w = true ∧ 0 ≤ i ∧ i < w.th.length then 0 else atErr w))]
  rw [decide_eq_true h.1.p, if_pos h.1.p, h.2]; rfl)
def sCanO : FSpec := spec (Gh 3 (Wd × Int)) (fun ⟨(w, i)⟩ => [.agg (wdC true w), .i i]) (fun ⟨(w, i)⟩ => Out8 w i) fun ⟨(w, i)⟩ => .tup [.c (.b false), .c (.i 3)]
theorem sCanO_ok : Meets Tryz.prog 22 sCanO := meets_spec canP_ok (fun ⟨(w, i)⟩ => (true, w, i)) (fun ⟨_⟩ => rfl) (fun ⟨(w, i)⟩ h => Wok.s h.k) (fun ⟨(w, i)⟩ h => by
  show RV.tup [.c (.b false), .c (.i 3)] = RV.tup [.c (.b (decide (worldR w = true ∧ 0 ≤ i ∧ i < w.th.length) && canF w i)), .c (.i (if worldR w = true ∧ 0 ≤ i ∧ i < w.th.length then 0 else atErr w))]
  rw [decide_eq_false h.p, if_neg h.p, atErr_in h.k.r]; rfl)
def sCanW : FSpec := spec (Gh 4 (Wd × Int)) (fun ⟨(w, i)⟩ => [.agg (wdC true w), .i i]) (fun ⟨(w, i)⟩ => In8 w i) fun ⟨(w, i)⟩ => .tup [.c (.b (canF w i)), .c (.i 0)]
theorem sCanW_ok : Meets Tryz.prog 22 sCanW := meets_spec canP_ok (fun ⟨(w, i)⟩ => (true, w, i)) (fun ⟨_⟩ => rfl) (fun ⟨(w, i)⟩ h => Wok.s h.k) (fun ⟨(w, i)⟩ h => by
  show RV.tup [.c (.b (canF w i)), .c (.i 0)] = RV.tup [.c (.b (decide (worldR w = true ∧ 0 ≤ i ∧ i < w.th.length) && canF w i)), .c (.i (if worldR w = true ∧ 0 ≤ i ∧ i < w.th.length then 0 else atErr w))]
  rw [decide_eq_true h.p, if_pos h.p]; rfl)
def sCanA : FSpec := sCanY.or (sCanN.or (sCanO.or (sCanW.or sCanP)))
theorem canA_ok : Meets Tryz.prog 22 sCanA := meets_or sCanY_ok (meets_or sCanN_ok (meets_or sCanO_ok (meets_or sCanW_ok canP_ok)))
def sStepG : FSpec := spec (Gh 6 (Wd × Int)) (fun ⟨(w, i)⟩ => [.s (rWd w), .i i]) (fun ⟨(w, i)⟩ => In8 w i ∧ canF w i = true) fun ⟨(w, i)⟩ => rWdE (stepF w i, 0)
theorem sStepG_ok : Meets Tryz.prog 9 sStepG := meets_spec stepP_ok (fun ⟨(w, i)⟩ => (w, i)) (fun ⟨_⟩ => rfl) (fun ⟨(w, i)⟩ h => ⟨Wok.s h.1.k, Wok.e h.1.k⟩) (fun ⟨(w, i)⟩ h => by
  show rWdE (stepF w i, 0) = rWdE (stepR w i)
  rw [stepR_go h.1.k.r h.1.h h.2])
def sStepW : FSpec := spec (Gh 7 (Wd × Int)) (fun ⟨(w, i)⟩ => [.s (rWd w), .i i]) (fun ⟨(w, i)⟩ => In8 w i ∧ canF w i = false) fun ⟨(w, i)⟩ => rWdE (wd0, 9)
theorem sStepW_ok : Meets Tryz.prog 9 sStepW := meets_spec stepP_ok (fun ⟨(w, i)⟩ => (w, i)) (fun ⟨_⟩ => rfl) (fun ⟨(w, i)⟩ h => ⟨Wok.s h.1.k, Wok.e h.1.k⟩) (fun ⟨(w, i)⟩ h => by
  show rWdE (wd0, 9) = rWdE (stepR w i)
  rw [stepR_wait h.1.k.r h.1.h h.2])
def sStepO : FSpec := spec (Gh 8 (Wd × Int)) (fun ⟨(w, i)⟩ => [.s (rWd w), .i i]) (fun ⟨(w, i)⟩ => Out8 w i) fun ⟨(w, i)⟩ => rWdE (wd0, 3)
theorem sStepO_ok : Meets Tryz.prog 9 sStepO := meets_spec stepP_ok (fun ⟨(w, i)⟩ => (w, i)) (fun ⟨_⟩ => rfl) (fun ⟨(w, i)⟩ h => ⟨Wok.s h.k, Wok.e h.k⟩) (fun ⟨(w, i)⟩ h => by
  show rWdE (wd0, 3) = rWdE (stepR w i)
  rw [stepR_no h.k.r h.h])
def sStepA : FSpec := sStepG.or (sStepW.or sStepO)
theorem stepA_ok : Meets Tryz.prog 9 sStepA := meets_or sStepG_ok (meets_or sStepW_ok sStepO_ok)
def sHasY : FSpec := spec (Gh 12 (Wd × Int)) (fun ⟨(w, i)⟩ => [.s (rWd w), .i i]) (fun ⟨(w, i)⟩ => hasW w i = true) fun ⟨(w, i)⟩ => .b true
theorem sHasY_ok : Meets Tryz.prog 24 sHasY := meets_spec has8_ok (fun ⟨(w, i)⟩ => (w, i)) (fun ⟨_⟩ => rfl) (fun ⟨(w, i)⟩ h => trivial) (fun ⟨(w, i)⟩ h => by
  show RV.s (.c (.b true)) = RV.s (.c (.b (hasW w i)))
  rw [h])
def sHasN : FSpec := spec (Gh 13 (Wd × Int)) (fun ⟨(w, i)⟩ => [.s (rWd w), .i i]) (fun ⟨(w, i)⟩ => hasW w i = false) fun ⟨(w, i)⟩ => .b false
theorem sHasN_ok : Meets Tryz.prog 24 sHasN := meets_spec has8_ok (fun ⟨(w, i)⟩ => (w, i)) (fun ⟨_⟩ => rfl) (fun ⟨(w, i)⟩ h => trivial) (fun ⟨(w, i)⟩ h => by
  show RV.s (.c (.b false)) = RV.s (.c (.b (hasW w i)))
  rw [h])
def sHasA : FSpec := sHasY.or (sHasN.or sHas8)
theorem hasA_ok : Meets Tryz.prog 24 sHasA := meets_or sHasY_ok (meets_or sHasN_ok has8_ok)
def sRCanY : FSpec := spec (Gh 14 (Wd × Int)) (fun ⟨(w, i)⟩ => [.s (rWd w), .i i]) (fun ⟨(w, i)⟩ => In8 w i ∧ canF w i = true) fun ⟨(w, i)⟩ => .b true
theorem sRCanY_ok : Meets Tryz.prog 27 sRCanY := meets_spec can8_ok (fun ⟨(w, i)⟩ => (w, i)) (fun ⟨_⟩ => rfl) (fun ⟨(w, i)⟩ h => h.1.o) (fun ⟨(w, i)⟩ h => by
  show RV.s (.c (.b true)) = RV.s (.c (.b (canF w i)))
  rw [h.2])
def sRCanN : FSpec := spec (Gh 15 (Wd × Int)) (fun ⟨(w, i)⟩ => [.s (rWd w), .i i]) (fun ⟨(w, i)⟩ => In8 w i ∧ canF w i = false) fun ⟨(w, i)⟩ => .b false
theorem sRCanN_ok : Meets Tryz.prog 27 sRCanN := meets_spec can8_ok (fun ⟨(w, i)⟩ => (w, i)) (fun ⟨_⟩ => rfl) (fun ⟨(w, i)⟩ h => h.1.o) (fun ⟨(w, i)⟩ h => by
  show RV.s (.c (.b false)) = RV.s (.c (.b (canF w i)))
  rw [h.2])
def sRCanA : FSpec := sRCanY.or sRCanN
theorem rcanA_ok : Meets Tryz.prog 27 sRCanA := meets_or sRCanY_ok sRCanN_ok
def sSameT : FSpec := spec (Gh 16 (Bool × Wd × Bool)) (fun ⟨(e, w, e')⟩ => [.agg (wdC e w), .agg (wdC e' w)]) (fun ⟨(e, w, e')⟩ => SmallY w) fun ⟨(e, w, e')⟩ => .b true
theorem sSameT_ok : Meets Tryz.prog 20 sSameT := meets_spec sameW_ok (fun ⟨(e, w, e')⟩ => (e, w, e', w)) (fun ⟨_⟩ => rfl) (fun ⟨(e, w, e')⟩ h => ⟨h, h⟩) (fun ⟨(e, w, e')⟩ h => by
  show RV.s (.c (.b true)) = RV.s (.c (.b (sameW w w)))
  rw [sameW_self])
def sRightT : FSpec := spec (Gh 17 (Bool × Wd)) (fun ⟨(e, w)⟩ => [.agg (wdC e w)]) (fun ⟨(e, w)⟩ => Wok w) fun ⟨(e, w)⟩ => .b true
theorem sRightT_ok : Meets Tryz.prog 12 sRightT := meets_spec worldR_ok (fun ⟨(e, w)⟩ => (e, w)) (fun ⟨_⟩ => rfl) (fun ⟨(e, w)⟩ h => h.s) (fun ⟨(e, w)⟩ h => by
  show RV.s (.c (.b true)) = RV.s (.c (.b (worldR w)))
  rw [h.r])
def sRRightT : FSpec := spec (Gh 18 (Bool × Wd)) (fun ⟨(e, w)⟩ => [.agg (wdC e w)]) (fun ⟨(e, w)⟩ => Wok w) fun ⟨(e, w)⟩ => .b true
theorem sRRightT_ok : Meets Tryz.prog 11 sRRightT := meets_spec rworldR_ok (fun ⟨(e, w)⟩ => (e, w)) (fun ⟨_⟩ => rfl) (fun ⟨(e, w)⟩ h => h.s) (fun ⟨(e, w)⟩ h => by
  show RV.s (.c (.b true)) = RV.s (.c (.b (worldR w)))
  rw [h.r])
def sEvsT : FSpec := spec (Gh 20 (List Ev)) (fun ⟨l⟩ => [.c (evsS l), .c (evsS l)]) (fun ⟨l⟩ => l.length ≤ 1000000) fun ⟨l⟩ => .b true
theorem sEvsT_ok : Meets Tryz.prog 14 sEvsT := meets_spec Evs_ok (fun ⟨l⟩ => (l, l)) (fun ⟨_⟩ => rfl) (fun ⟨l⟩ h => ⟨h, h⟩) (fun ⟨l⟩ h => by
  show RV.s (.c (.b true)) = RV.s (.c (.b (decide (l = l))))
  rw [decide_eq_true rfl])
def sCode5T : FSpec := spec (Gh 21 (List Ins)) (fun ⟨l⟩ => [.c (codeS l), .c (codeS l)]) (fun ⟨l⟩ => l.length ≤ 1000000) fun ⟨l⟩ => .b true
theorem sCode5T_ok : Meets Tryz.prog 15 sCode5T := meets_spec Code5_ok (fun ⟨l⟩ => (l, l)) (fun ⟨_⟩ => rfl) (fun ⟨l⟩ h => ⟨h, h⟩) (fun ⟨l⟩ h => by
  show RV.s (.c (.b true)) = RV.s (.c (.b (decide (l = l))))
  rw [decide_eq_true rfl])
end Go.Eng
