/- A part of the walks, and of the machine that proves them (StG). -/
import Derived.Test.YtgahcoccodhkmaaGreatStE
set_option linter.unusedVariables false
set_option linter.unusedSimpArgs false
namespace Go.Eng
open Go Go.Proofs
structure WOk (w : Wd) (i : Int) : Prop where
  r : worldR w = true
  h : 0 ≤ i ∧ i < w.th.length
theorem okTh_iff {n : Nat} {t : Th} : okTh n t = true ↔ thR t = true ∧ (t.lf.length = 0 ∨ t.lf.length = n) := by simp [okTh]
theorem world_len {w : Wd} (h : worldR w = true) : w.th.length = w.l.length ∧ 1 ≤ w.th.length ∧ w.th.length ≤ 8 ∧ 0 ≤ w.d ∧ w.d ≤ 8 := by
  obtain ⟨_, h2, h3, _⟩ := worldR_iff.1 h
  have := sizesF_iff.1 (tsoR_iff.1 h2).2.1
  omega
theorem world_small {w : Wd} (h : worldR w = true) : SmallW w := by
  obtain ⟨_, h2, h3, h4⟩ := worldR_iff.1 h
  have hl := world_len h
  obtain ⟨_, _, hb⟩ := tsoR_iff.1 h2
  refine ⟨⟨by omega, fun i => ?_⟩, by omega, fun i => ?_⟩
  · by_cases hi : i < w.l.length
    · have := hb i hi
      simp only [okB, Bool.and_eq_true, decide_eq_true_eq] at this
      omega
    · rw [List.getD_eq_getElem?_getD, List.getElem?_eq_none (by omega)]; decide
  · by_cases hi : i < w.th.length
    · have := thR_iff.1 (okTh_iff.1 (h4 i hi)).1
      exact ⟨by omega, by omega⟩
    · rw [List.getD_eq_getElem?_getD, List.getElem?_eq_none (by omega)]; exact ⟨by decide, by decide⟩
theorem WOk.hasF {w : Wd} {i : Int} (h : WOk w i) : hasF w.ws w.ts w.d w.l i = true := by
  have := world_len h.r
  have := h.h
  exact hasF_iff.2 ⟨(worldR_iff.1 h.r).2.1, by omega, by omega⟩
theorem WOk.mem {w : Wd} {i : Int} (h : WOk w i) : memR w.ws w.ts = true := (tsoR_iff.1 (worldR_iff.1 h.r).2.1).1
theorem WOk.th {w : Wd} {i : Int} (h : WOk w i) : thR (thOf w i) = true := by
  have := h.h
  exact (okTh_iff.1 ((worldR_iff.1 h.r).2.2.2 i.toNat (by omega))).1
theorem WOk.lf {w : Wd} {i : Int} (h : WOk w i) : (thOf w i).lf.length = 0 ∨ (thOf w i).lf.length = w.th.length := by
  have := h.h
  exact (okTh_iff.1 ((worldR_iff.1 h.r).2.2.2 i.toNat (by omega))).2
theorem WOk.pc {w : Wd} {i : Int} (h : WOk w i) : 0 ≤ (thOf w i).pc ∧ (thOf w i).pc ≤ 1000 := placeF_iff.1 (thR_iff.1 h.th).1
theorem WOk.code {w : Wd} {i : Int} (h : WOk w i) : w.code.length ≤ 1000 := (codeR_iff.1 (worldR_iff.1 h.r).1).1
abbrev insOf (w : Wd) (t : Th) : Ins := w.code.getD t.pc.toNat default
theorem WOk.ins {w : Wd} {i : Int} (h : WOk w i) (hp : (thOf w i).pc < w.code.length) : insR w.code.length (insOf w (thOf w i)) = true := by
  have := h.pc
  exact (codeR_iff.1 (worldR_iff.1 h.r).1).2 _ (by omega)
theorem okV_reg {n v : Int} : okV n 114 v = true ↔ 0 ≤ v ∧ v ≤ 7 := by unfold okV; rw [decide_eq_true_eq]; omega
theorem okV_num {n v : Int} : okV n 110 v = true ↔ -1000000000 ≤ v ∧ v ≤ 1000000000 := by unfold okV; rw [decide_eq_true_eq]; omega
theorem insR_at {n op a b c : Int} (h : insR n (op, a, b, c) = true) : (0 ≤ op ∧ op ≤ 26) ∧ okV n (kdF op 0) a = true ∧ okV n (kdF op 1) b = true ∧ okV n (kdF op 2) c = true := by
  obtain ⟨h1, h2⟩ := insR_iff.1 h
  exact ⟨h1, h2 0 (by omega), h2 1 (by omega), h2 2 (by omega)⟩
/-- Which registers an instruction that is no local one needs. -/
theorem insR_regs {n op a b c : Int} (h : insR n (op, a, b, c) = true) :
    ((op = 16 ∨ op = 17 ∨ op = 19 ∨ op = 20 ∨ op = 21 ∨ op = 23 ∨ op = 24 ∨ op = 25) → (0 ≤ a ∧ a ≤ 7) ∧ 0 ≤ b ∧ b ≤ 7) ∧ (op = 19 → 0 ≤ c ∧ c ≤ 7) ∧ ((op = 16 ∨ op = 17) → -1000000000 ≤ c ∧ c ≤ 1000000000) := by
  obtain ⟨_, h1, h2, h3⟩ := insR_at h
  refine ⟨fun ho => ?_, fun ho => ?_, fun ho => ?_⟩
  · rcases ho with rfl | rfl | rfl | rfl | rfl | rfl | rfl | rfl <;> exact ⟨okV_reg.1 h1, okV_reg.1 h2⟩
  · subst ho; exact okV_reg.1 h3
  · rcases ho with rfl | rfl <;> exact okV_num.1 h3
def canI (w : Wd) (t : Th) (b : List Put) (x : Ins) : Bool :=
  if x.1 = 17 then decide (w.d = 0 ∨ (b.length : Int) < w.d)
  else if x.1 = 18 ∨ x.1 = 19 ∨ x.1 = 20 ∨ x.1 = 21 then decide ((b.length : Int) = 0)
  else if x.1 = 22 then !t.lf.any fun n => decide (n > 0)
  else if x.1 = 23 then decide ((b.length : Int) = 0 ∧ (¬ (loadF w.ws w.ts (getR t x.2.2.1)).2 = 0 ∨ ¬ (loadF w.ws w.ts (getR t x.2.2.1)).1 = getR t x.2.1))
  else true
def canF (w : Wd) (i : Int) : Bool :=
  if ¬ (thOf w i).st = 0 then false else if (w.code.length : Int) ≤ (thOf w i).pc then true else canI w (thOf w i) (w.l.getD i.toNat default) (insOf w (thOf w i))
def sCan8 : FSpec := spec (Wd × Int) (fun (w, i) => [.s (rWd w), .i i]) (fun (w, i) => WOk w i) fun (w, i) => .b (canF w i)
def G3 : List (Nat × FSpec) := [(55, sRLoad)]
theorem G3_ok : GOK Tryz.prog (tab G3) := gok_cons rload_ok (gok_nil _)
theorem canF_st {w : Wd} {i : Int} (h : ¬ (thOf w i).st = 0) : canF w i = false := by unfold canF; rw [if_pos h]
theorem canF_end {w : Wd} {i : Int} (h : (thOf w i).st = 0) (h2 : (thOf w i).pc ≥ w.code.length) : canF w i = true := by unfold canF; rw [if_neg (by omega), if_pos h2]
theorem canF_in {w : Wd} {i : Int} (h : (thOf w i).st = 0) (h2 : ¬ (thOf w i).pc ≥ w.code.length) : canF w i = canI w (thOf w i) (w.l.getD i.toNat default) (insOf w (thOf w i)) := by unfold canF; rw [if_neg (by omega), if_neg h2]
section
variable {w : Wd} {i : Int} (h : (thOf w i).st = 0) (h2 : ¬ (thOf w i).pc ≥ w.code.length)
include h h2
theorem canF_17a (ho : (insOf w (thOf w i)).1 = 17) (hd : w.d = 0) : canF w i = true := by
  rw [canF_in h h2, canI, if_pos ho]; exact decide_eq_true (.inl hd)
theorem canF_17b (ho : (insOf w (thOf w i)).1 = 17) (hd : ¬ w.d = 0) : canF w i = decide (((w.l.getD i.toNat default).length : Int) < w.d) := by
  rw [canF_in h h2, canI, if_pos ho]; congr 1; apply propext; omega
theorem canF_18 (ho : (insOf w (thOf w i)).1 = 18 ∨ (insOf w (thOf w i)).1 = 19 ∨ (insOf w (thOf w i)).1 = 20 ∨ (insOf w (thOf w i)).1 = 21) : canF w i = (((w.l.getD i.toNat default).length : Int) == 0) := by
  rw [canF_in h h2, canI, if_neg (by omega), if_pos ho]; rfl
theorem canF_22 (ho : (insOf w (thOf w i)).1 = 22) : canF w i = !(thOf w i).lf.any fun n => decide (n > 0) := by
  rw [canF_in h h2, canI, if_neg (by omega), if_neg (by omega), if_pos ho]
theorem canF_23a (ho : (insOf w (thOf w i)).1 = 23) (hb : ¬ ((w.l.getD i.toNat default).length : Int) = 0) : canF w i = false := by
  rw [canF_in h h2, canI, if_neg (by omega), if_neg (by omega), if_neg (by omega), if_pos ho]; exact decide_eq_false fun hh => hb hh.1
theorem canF_23b (ho : (insOf w (thOf w i)).1 = 23) (hb : ((w.l.getD i.toNat default).length : Int) = 0) (he : ¬ (loadF w.ws w.ts (getR (thOf w i) (insOf w (thOf w i)).2.2.1)).2 = 0) : canF w i = true := by
  rw [canF_in h h2, canI, if_neg (by omega), if_neg (by omega), if_neg (by omega), if_pos ho]; exact decide_eq_true ⟨hb, .inl he⟩
theorem canF_23c (ho : (insOf w (thOf w i)).1 = 23) (hb : ((w.l.getD i.toNat default).length : Int) = 0) (he : (loadF w.ws w.ts (getR (thOf w i) (insOf w (thOf w i)).2.2.1)).2 = 0) :
    canF w i = ((loadF w.ws w.ts (getR (thOf w i) (insOf w (thOf w i)).2.2.1)).1 != getR (thOf w i) (insOf w (thOf w i)).2.1) := by
  rw [canF_in h h2, canI, if_neg (by omega), if_neg (by omega), if_neg (by omega), if_pos ho, bne, Bool.eq_iff_iff, decide_eq_true_eq, Bool.not_eq_true', beq_eq_false_iff_ne]
  exact ⟨fun hh => hh.2.resolve_left (fun hn => hn he), fun hh => ⟨hb, .inr hh⟩⟩
theorem canF_other (ho : ¬ (insOf w (thOf w i)).1 = 17 ∧ ¬ (insOf w (thOf w i)).1 = 18 ∧ ¬ (insOf w (thOf w i)).1 = 19 ∧ ¬ (insOf w (thOf w i)).1 = 20 ∧ ¬ (insOf w (thOf w i)).1 = 21 ∧ ¬ (insOf w (thOf w i)).1 = 22 ∧ ¬ (insOf w (thOf w i)).1 = 23) : canF w i = true := by
  rw [canF_in h h2, canI, if_neg (by omega), if_neg (by omega), if_neg (by omega), if_neg (by omega)]
end
set_option maxHeartbeats 8000000 in
set_option maxRecDepth 100000 in
theorem can8_ok : Meets Tryz.prog 27 sCan8 := by
  refine meets_plain G3_ok rfl [] (fn := Tryz.f27) rfl rfl rfl (by decide) fun ⟨w, i⟩ ho => ?_
  have ho : WOk w i := ho
  have hh := ho.h
  have hlen := world_len ho.r
  have hm := ho.mem
  have hpc : 0 ≤ (w.th.getD i.toNat default).pc := ho.pc.1
  have hlf : (w.th.getD i.toNat default).lf.length = 0 ∨ (w.th.getD i.toNat default).lf.length = w.th.length := ho.lf
  have hr : (w.th.getD i.toNat default).pc < w.code.length → (w.code.getD (w.th.getD i.toNat default).pc.toNat default).1 = 23 → (0 ≤ (w.code.getD (w.th.getD i.toNat default).pc.toNat default).2.1 ∧ (w.code.getD (w.th.getD i.toNat default).pc.toNat default).2.1 ≤ 7) ∧
      0 ≤ (w.code.getD (w.th.getD i.toNat default).pc.toNat default).2.2.1 ∧ (w.code.getD (w.th.getD i.toNat default).pc.toNat default).2.2.1 ≤ 7 := fun h h2 => (insR_regs (ho.ins h)).1 (.inr (.inr (.inr (.inr (.inr (.inl h2))))))
  repeat' (first | exact @id (emp _ = true) | (intro h; first | exact Bool.noConfusion h | (simp only [Qn] at h) | skip) | ((conv => whnf) <;> (first | exact trivial | apply Qa | apply And.intro | apply Qb | apply Qc | apply Qd | apply Qe | apply Qf | apply Qg | apply Qh | apply Qi | exact QA | exact QP | refine QG ?_ | apply Qj | apply Qk | apply Ql | apply Qm | apply Qo | apply Qp | apply Qw | apply Qv | apply Qu | apply Qt | apply Qs | apply Qr | apply Qq | apply Qx | apply wrapS | apply Qy | (with_reducible exact lenNil) | apply Eq.refl)) | ((with_reducible first | apply Y1 | apply Y2 | apply Y3 | show blkEq _ _ _); conv => whnf))
  all_goals try first
    | omega
    | exact hm
    | exact canF_st (by assumption)
    | exact canF_end (by assumption) (by assumption)
    | exact canF_17a (by assumption) (by assumption) (by assumption) (by assumption)
    | exact canF_17b (by assumption) (by assumption) (by assumption) (by assumption)
    | exact canF_18 (by assumption) (by assumption) (.inl (by assumption))
    | exact canF_18 (by assumption) (by assumption) (.inr (.inl (by assumption)))
    | exact canF_18 (by assumption) (by assumption) (.inr (.inr (.inl (by assumption))))
    | exact canF_18 (by assumption) (by assumption) (.inr (.inr (.inr (by assumption))))
    | exact canF_23a (by assumption) (by assumption) (by assumption) (by assumption)
    | exact canF_23b (by assumption) (by assumption) (by assumption) (by assumption) (by assumption)
    | exact canF_23c (by assumption) (by assumption) (by assumption) (by assumption) (by assumption)
    | exact canF_other (by assumption) (by assumption) ⟨by assumption, by assumption, by assumption, by assumption, by assumption, by assumption, by assumption⟩
  have g1 : (w.th.getD i.toNat default).st = 0 := by assumption
  have g2 : ¬ (w.th.getD i.toNat default).pc ≥ w.code.length := by assumption
  have g3 : (w.code.getD (w.th.getD i.toNat default).pc.toNat default).1 = 22 := by assumption
  have hc : canF w i = !(w.th.getD i.toNat default).lf.any fun n => decide (n > 0) := canF_22 g1 g2 g3
  have hcf : ∀ k, k < (w.th.getD i.toNat default).lf.length → (w.th.getD i.toNat default).lf.getD k default > 0 → canF w i = false := fun k hk h => by
    rw [hc, Bool.not_eq_false']
    refine List.any_eq_true.2 ⟨_, List.getElem_mem hk, decide_eq_true ?_⟩
    rwa [List.getD_eq_getElem?_getD, List.getElem?_eq_getElem hk] at h
  have hct : (∀ k, k < (w.th.getD i.toNat default).lf.length → ¬ (w.th.getD i.toNat default).lf.getD k default > 0) → canF w i = true := fun h => by
    rw [hc, Bool.not_eq_true']
    refine List.any_eq_false.2 fun x hx => ?_
    obtain ⟨k, hk, rfl⟩ := List.getElem_of_mem hx
    have := h k hk
    rw [List.getD_eq_getElem?_getD, List.getElem?_eq_getElem hk] at this
    simpa using this
  clear hc hr ho
  have hlf' : (w.th.getD i.toNat default).lf.length ≤ 8 := by omega
  apply LoopP.up (G := Nat) (fun k => k ≤ (w.th.getD i.toNat default).lf.length ∧ Up k fun j => ¬ (w.th.getD i.toNat default).lf.getD j default > 0) [2, 5, 6, 7, 78, 79, 80] (fun k => [(80, .i k)]) (fun _ => []) 3 (fun k => (w.th.getD i.toNat default).lf.length - k)
  apply And.intro
  · refine CutE.at 0 ?_
    repeat' (first | exact @id (emp _ = true) | (intro h; first | exact Bool.noConfusion h | (simp only [Qn] at h) | skip) | ((conv => whnf) <;> (first | exact trivial | apply Qa | apply And.intro | apply EntP.id 3 | apply Qb | apply Qc | apply Qd | apply Qe | apply Qf | apply Qg | apply Qh | apply Qi | exact QA | exact QP | refine QG ?_ | apply Qj | apply Qk | apply Ql | apply Qm | apply Qo | apply Qp | apply Qw | apply Qv | apply Qu | apply Qt | apply Qs | apply Qr | apply Qq | apply Qx | apply wrapS | apply Qy | (with_reducible exact lenNil) | apply Eq.refl)) | ((with_reducible first | apply Y1 | apply Y2 | apply Y3 | show blkEq _ _ _); conv => whnf))
    all_goals try simp only [Int.toNat_natCast, Int.toNat_zero, ge_iff_le, gt_iff_lt, Int.ofNat_le, Int.ofNat_lt, Int.ofNat_inj] at *
    all_goals first
      | omega
      | (dsimp only; omega)
      | assumption
      | exact Up.zero _
      | (show ((8 : Nat) : Int) * _ ≤ _; omega)
      | (show _ * (8 : Nat) ≤ _; omega)
      | (show _ * (16 : Nat) ≤ _; omega)
      | (show _ * (24 : Nat) ≤ _; omega)
      | trace_state
  · intro k ⟨hk, hu⟩
    repeat' (first | exact @id (emp _ = true) | (intro h; first | exact Bool.noConfusion h | (simp only [Qn] at h) | skip) | ((conv => whnf) <;> (first | exact trivial | apply Qa | apply And.intro | refine CutE.at (A := Nat) (k + 1) ?_ | apply EntP.id 3 | apply Qb | apply Qc | apply Qd | apply Qe | apply Qf | apply Qg | apply Qh | apply Qi | exact QA | exact QP | refine QG ?_ | apply Qj | apply Qk | apply Ql | apply Qm | apply Qo | apply Qp | apply Qw | apply Qv | apply Qu | apply Qt | apply Qs | apply Qr | apply Qq | apply Qx | apply wrapS | apply Qy | (with_reducible exact lenNil) | apply Eq.refl)) | ((with_reducible first | apply Y1 | apply Y2 | apply Y3 | show blkEq _ _ _); conv => whnf))
    all_goals try simp only [Int.toNat_natCast] at *
    all_goals first
      | omega
      | (exfalso; omega)
      | (show _ - (k + 1) < _ - k; omega)
      | exact hcf k (by omega) (by assumption)
      | exact hct fun j hj => hu.get j (by omega)
      | exact hu.succ (by assumption)
      | trace_state
end Go.Eng
namespace Go.Eng
open Go Go.Proofs
abbrev tsoOf (w : Wd) : Tso := (w.ws, w.ts, w.d, w.l)
def setM (w : Wd) (t : Tso) : Wd := ⟨w.code, t.1, t.2.1, t.2.2.1, t.2.2.2, w.th, w.ev⟩
def nextT (t : Th) : Th := setPc t (t.pc + 1)
def leftT (t : Th) (lf : List Int) : Th := ⟨t.pc, t.r0, t.r1, t.r2, t.r3, t.r4, t.r5, t.r6, t.r7, t.fs, t.st, t.fa, lf⟩
/-- A step that failed is a fault. -/
def finW (w : Wd) (i : Int) (p : Wd × Int) : Wd := if p.2 = 0 then p.1 else putW w i (faultT (thOf w i) p.2)
theorem finW_ok {w : Wd} {i : Int} {p : Wd × Int} (h : p.2 = 0) : finW w i p = p.1 := if_pos h
theorem finW_bad {w : Wd} {i : Int} {p : Wd × Int} (h : ¬ p.2 = 0) : finW w i p = putW w i (faultT (thOf w i) p.2) := if_neg h
def atOf (t : Th) (x : Ins) : Int := IntKind.i64.wrap (getR t x.2.2.1 + x.2.2.2)
def accP (w : Wd) (i : Int) (x : Ins) : Wd × Int :=
  if x.1 = 16 then (putW w i (nextT (setRg (thOf w i) x.2.1 (loadT (tsoOf w) i (atOf (thOf w i) x)).1)), (loadT (tsoOf w) i (atOf (thOf w i) x)).2)
  else (putW (setM w (storeT (tsoOf w) i (atOf (thOf w i) x) (getR (thOf w i) x.2.1)).1) i (nextT (thOf w i)), (storeT (tsoOf w) i (atOf (thOf w i) x) (getR (thOf w i) x.2.1)).2)
abbrev lkOf (w : Wd) (i : Int) (x : Ins) : Tso × Int × Int := lockT (tsoOf w) i (x.1 - 19) (getR (thOf w i) x.2.2.1) (getR (thOf w i) x.2.1) (if x.1 = 19 then getR (thOf w i) x.2.2.2 else 0)
def lockP (w : Wd) (i : Int) (x : Ins) : Wd × Int := (putW (setM w (lkOf w i x).1) i (nextT (setRg (thOf w i) x.2.1 (lkOf w i x).2.1)), (lkOf w i x).2.2)
def broadP (w : Wd) (i : Int) : Wd × Int :=
  if 0 < (thOf w i).lf.length then (putW w i (nextT (leftT (thOf w i) [])), 0) else (putW w i (leftT (thOf w i) (w.l.map fun b => (b.length : Int))), 0)
abbrev mkOf (w : Wd) (i : Int) (x : Ins) : (List Int × List Int) × Int := markF w.ws w.ts (getR (thOf w i) x.2.1) (getR (thOf w i) x.2.2.1) (x.1 - 23)
def setMem (w : Wd) (m : List Int × List Int) : Wd := ⟨w.code, m.1, m.2, w.d, w.l, w.th, w.ev⟩
def markP (w : Wd) (i : Int) (x : Ins) : Wd × Int := (putW (setMem w (mkOf w i x).1) i (nextT (thOf w i)), (mkOf w i x).2)
def H1 : List (Nat × FSpec) := (56, sFaultW) :: (57, sPutW) :: (107, sSetA) :: (108, sRTLoad) :: (109, sRTStore) :: (110, sRTLock) :: (111, sRMark) :: G2
theorem H1_ok : GOK Tryz.prog (tab H1) := gok_cons faultW_ok (gok_cons putW_ok (gok_cons setA_ok (gok_cons rtload_ok (gok_cons rtstore_ok (gok_cons rtlock_ok (gok_cons rmark_ok G2_ok))))))
abbrev Reg (n : Int) : Prop := 0 ≤ n ∧ n ≤ 7
def sAcc8 : FSpec := spec (Wd × Int × Ins) (fun (w, i, x) => [.s (rWd w), .i i, .agg (encIns x)]) (fun (w, i, x) => WOk w i ∧ (thOf w i).pc < w.code.length ∧ (x.1 = 16 ∨ x.1 = 17) ∧ Reg x.2.1 ∧ Reg x.2.2.1) fun (w, i, x) => .s (rWd (finW w i (accP w i x)))
theorem pc_wrap {w : Wd} {i : Int} (h : WOk w i) (hp : (thOf w i).pc < w.code.length) : (thOf w i).pc + 1 = IntKind.i64.wrap ((thOf w i).pc + 1) := by
  have := h.pc
  have := h.code
  rw [wrap_i64 (by omega)]
set_option maxHeartbeats 1000000 in
set_option maxRecDepth 100000 in
theorem acc8_ok : Meets Tryz.prog 60 sAcc8 := by
  refine meets_plain H1_ok rfl [] (fn := Tryz.f60) rfl rfl rfl (by decide) fun ⟨w, i, op, a, b, c⟩ ⟨ho, hp, hop, ha, hb⟩ => ?_
  have hh := ho.h
  have hlen := world_len ho.r
  have hF := ho.hasF
  have hm := ho.mem
  have hpc : (w.th.getD i.toNat default).pc + 1 = IntKind.i64.wrap ((w.th.getD i.toNat default).pc + 1) := pc_wrap ho hp
  have hhas : hasW w i = true := decide_eq_true hh
  have ha : 0 ≤ a ∧ a ≤ 7 := ha
  have hb : 0 ≤ b ∧ b ≤ 7 := hb
  rcases hop with rfl | rfl
  · by_cases he : ((loadT (tsoOf w) i (atOf (thOf w i) (16, a, b, c))).2) = 0
    · have e1 : sAcc8.res (w, i, 16, a, b, c) = .s (rWd (putW w i (nextT (setRg (thOf w i) a (loadT (tsoOf w) i (atOf (thOf w i) (16, a, b, c))).1)))) := by show RV.s (rWd (finW _ _ _)) = _; rw [finW_ok (show (accP w i (16, a, b, c)).2 = 0 from he)]; rfl
      show bodyK Tryz.prog _ _ _ _ sAcc8 (w, i, 16, a, b, c)
      unfold bodyK retE
      rw [e1]
      clear e1
      repeat' (first | exact @id (emp _ = true) | (intro h; first | exact Bool.noConfusion h | (simp only [Qn] at h) | skip) | ((conv => whnf) <;> (first | exact trivial | apply Qa | apply And.intro | apply CutE.goR8 | (refine CutE.at (A := Wd × Int × Th) (w, i, nextT (setRg (thOf w i) a (loadT (tsoOf w) i (atOf (thOf w i) (16, a, b, c))).1)) ?_) | apply Qb | apply Qc | apply Qd | apply Qe | apply Qf | apply Qg | apply Qh | apply Qi | exact QA | exact QP | refine QG ?_ | apply Qj | apply Qk | apply Ql | apply Qm | apply Qo | apply Qp | apply Qw | apply Qv | apply Qu | apply Qt | apply Qs | apply Qr | apply Qq | apply Qx | apply wrapS | apply Qy | (with_reducible exact lenNil) | apply Eq.refl)) | ((with_reducible first | apply Y1 | apply Y2 | apply Y3 | show blkEq _ _ _); conv => whnf))
      all_goals first
        | omega
        | exact hF
        | exact hhas
        | exact hpc
        | exact absurd he h
        | exact absurd h he
        | exact hF2
        | decide
        | (show w.th.length ≤ 1000000; omega)
        | (show (_ : Int) ≤ _; omega)
        | (show (_ : Int) < _; omega)
        | exact ⟨hF, by omega, by omega⟩
        | exact ⟨hm, hop⟩
        | exact hm
        | exact Or.inl rfl
        | exact Or.inr rfl
        | (refine ⟨hF, ?_, ?_⟩ <;> decide)
        | exact absurd he (by assumption)
        | exact absurd (by assumption) he
        | trace_state
    · have e1 : sAcc8.res (w, i, 16, a, b, c) = .s (rWd (putW w i (faultT (thOf w i) ((loadT (tsoOf w) i (atOf (thOf w i) (16, a, b, c))).2)))) := by show RV.s (rWd (finW _ _ _)) = _; rw [finW_bad (show ¬ (accP w i (16, a, b, c)).2 = 0 from he)]; rfl
      show bodyK Tryz.prog _ _ _ _ sAcc8 (w, i, 16, a, b, c)
      unfold bodyK retE
      rw [e1]
      clear e1
      repeat' (first | exact @id (emp _ = true) | (intro h; first | exact Bool.noConfusion h | (simp only [Qn] at h) | skip) | ((conv => whnf) <;> (first | exact trivial | apply Qa | apply And.intro | apply CutE.goR8 | (refine CutE.at (A := Wd × Int × Th) (w, i, nextT (setRg (thOf w i) a (loadT (tsoOf w) i (atOf (thOf w i) (16, a, b, c))).1)) ?_) | apply Qb | apply Qc | apply Qd | apply Qe | apply Qf | apply Qg | apply Qh | apply Qi | exact QA | exact QP | refine QG ?_ | apply Qj | apply Qk | apply Ql | apply Qm | apply Qo | apply Qp | apply Qw | apply Qv | apply Qu | apply Qt | apply Qs | apply Qr | apply Qq | apply Qx | apply wrapS | apply Qy | (with_reducible exact lenNil) | apply Eq.refl)) | ((with_reducible first | apply Y1 | apply Y2 | apply Y3 | show blkEq _ _ _); conv => whnf))
      all_goals first
        | omega
        | exact hF
        | exact hhas
        | exact hpc
        | exact absurd he h
        | exact absurd h he
        | exact hF2
        | decide
        | (show w.th.length ≤ 1000000; omega)
        | (show (_ : Int) ≤ _; omega)
        | (show (_ : Int) < _; omega)
        | exact ⟨hF, by omega, by omega⟩
        | exact ⟨hm, hop⟩
        | exact hm
        | exact Or.inl rfl
        | exact Or.inr rfl
        | (refine ⟨hF, ?_, ?_⟩ <;> decide)
        | exact absurd he (by assumption)
        | exact absurd (by assumption) he
        | trace_state
  · by_cases he : ((storeT (tsoOf w) i (atOf (thOf w i) (17, a, b, c)) (getR (thOf w i) a)).2) = 0
    · have e1 : sAcc8.res (w, i, 17, a, b, c) = .s (rWd (putW (setM w (storeT (tsoOf w) i (atOf (thOf w i) (17, a, b, c)) (getR (thOf w i) a)).1) i (nextT (thOf w i)))) := by show RV.s (rWd (finW _ _ _)) = _; rw [finW_ok (show (accP w i (17, a, b, c)).2 = 0 from he)]; rfl
      show bodyK Tryz.prog _ _ _ _ sAcc8 (w, i, 17, a, b, c)
      unfold bodyK retE
      rw [e1]
      clear e1
      repeat' (first | exact @id (emp _ = true) | (intro h; first | exact Bool.noConfusion h | (simp only [Qn] at h) | skip) | ((conv => whnf) <;> (first | exact trivial | apply Qa | apply And.intro | apply CutE.goR8 | (refine CutE.at (A := Wd × Int × Th) (setM w (storeT (tsoOf w) i (atOf (thOf w i) (17, a, b, c)) (getR (thOf w i) a)).1, i, nextT (thOf w i)) ?_) | apply Qb | apply Qc | apply Qd | apply Qe | apply Qf | apply Qg | apply Qh | apply Qi | exact QA | exact QP | refine QG ?_ | apply Qj | apply Qk | apply Ql | apply Qm | apply Qo | apply Qp | apply Qw | apply Qv | apply Qu | apply Qt | apply Qs | apply Qr | apply Qq | apply Qx | apply wrapS | apply Qy | (with_reducible exact lenNil) | apply Eq.refl)) | ((with_reducible first | apply Y1 | apply Y2 | apply Y3 | show blkEq _ _ _); conv => whnf))
      all_goals first
        | omega
        | exact hF
        | exact hhas
        | exact hpc
        | exact absurd he h
        | exact absurd h he
        | exact hF2
        | decide
        | (show w.th.length ≤ 1000000; omega)
        | (show (_ : Int) ≤ _; omega)
        | (show (_ : Int) < _; omega)
        | exact ⟨hF, by omega, by omega⟩
        | exact ⟨hm, hop⟩
        | exact hm
        | exact Or.inl rfl
        | exact Or.inr rfl
        | (refine ⟨hF, ?_, ?_⟩ <;> decide)
        | exact absurd he (by assumption)
        | exact absurd (by assumption) he
        | trace_state
    · have e1 : sAcc8.res (w, i, 17, a, b, c) = .s (rWd (putW w i (faultT (thOf w i) ((storeT (tsoOf w) i (atOf (thOf w i) (17, a, b, c)) (getR (thOf w i) a)).2)))) := by show RV.s (rWd (finW _ _ _)) = _; rw [finW_bad (show ¬ (accP w i (17, a, b, c)).2 = 0 from he)]; rfl
      show bodyK Tryz.prog _ _ _ _ sAcc8 (w, i, 17, a, b, c)
      unfold bodyK retE
      rw [e1]
      clear e1
      repeat' (first | exact @id (emp _ = true) | (intro h; first | exact Bool.noConfusion h | (simp only [Qn] at h) | skip) | ((conv => whnf) <;> (first | exact trivial | apply Qa | apply And.intro | apply CutE.goR8 | (refine CutE.at (A := Wd × Int × Th) (setM w (storeT (tsoOf w) i (atOf (thOf w i) (17, a, b, c)) (getR (thOf w i) a)).1, i, nextT (thOf w i)) ?_) | apply Qb | apply Qc | apply Qd | apply Qe | apply Qf | apply Qg | apply Qh | apply Qi | exact QA | exact QP | refine QG ?_ | apply Qj | apply Qk | apply Ql | apply Qm | apply Qo | apply Qp | apply Qw | apply Qv | apply Qu | apply Qt | apply Qs | apply Qr | apply Qq | apply Qx | apply wrapS | apply Qy | (with_reducible exact lenNil) | apply Eq.refl)) | ((with_reducible first | apply Y1 | apply Y2 | apply Y3 | show blkEq _ _ _); conv => whnf))
      all_goals first
        | omega
        | exact hF
        | exact hhas
        | exact hpc
        | exact absurd he h
        | exact absurd h he
        | exact hF2
        | decide
        | (show w.th.length ≤ 1000000; omega)
        | (show (_ : Int) ≤ _; omega)
        | (show (_ : Int) < _; omega)
        | exact ⟨hF, by omega, by omega⟩
        | exact ⟨hm, hop⟩
        | exact hm
        | exact Or.inl rfl
        | exact Or.inr rfl
        | (refine ⟨hF, ?_, ?_⟩ <;> decide)
        | exact absurd he (by assumption)
        | exact absurd (by assumption) he
        | trace_state
end Go.Eng
