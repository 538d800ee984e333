/- A part of the walks, and of the machine that proves them (LoD). -/
import Derived.Test.YtgahcoccodhkmaaGreatLoA
set_option linter.unusedVariables false
set_option linter.unusedSimpArgs false
namespace Go.Eng
open Go Go.Proofs
abbrev R8 := Int × Int × Int × Int × Int × Int × Int × Int × Int × Int
theorem CutE.goR8 {p : R8 → Prop} {q0 q1 q2 q3 q4 q5 q6 q7 k v : Int} (h : p (q0, q1, q2, q3, q4, q5, q6, q7, k, v)) : CutE R8 p := ⟨⟨_, h⟩⟩
def sSetA : FSpec := spec R8 (fun (q0, q1, q2, q3, q4, q5, q6, q7, k, v) => [.agg [.i q0, .i q1, .i q2, .i q3, .i q4, .i q5, .i q6, .i q7], .i k, .i v]) (fun (_, _, _, _, _, _, _, _, k, _) => 0 ≤ k ∧ k < 8)
  fun (q0, q1, q2, q3, q4, q5, q6, q7, k, v) => .s (.agg [.i (if k = 0 then v else q0), .i (if k = 1 then v else q1), .i (if k = 2 then v else q2), .i (if k = 3 then v else q3), .i (if k = 4 then v else q4), .i (if k = 5 then v else q5), .i (if k = 6 then v else q6), .i (if k = 7 then v else q7)])
set_option maxHeartbeats 4000000 in
set_option maxRecDepth 100000 in
theorem setA_ok : Meets Tryz.prog 107 sSetA := by
  refine meets_plain (gok_nil _) rfl [] (fn := Tryz.f107) rfl rfl rfl (by decide) fun ⟨q0, q1, q2, q3, q4, q5, q6, q7, k, v⟩ hp => ?_
  have hp : 0 ≤ k ∧ k < 8 := hp
  repeat' (first | exact @id (emp _ = true) | (intro h; first | exact Bool.noConfusion h | (simp only [Qn] at h) | skip) | ((conv => whnf) <;> (first | exact trivial | apply Qa | apply And.intro | apply Qb | apply Qc | apply Qd | apply Qe | apply Qf | apply Qg | apply Qh | apply Qi | exact QA | exact QP | refine QG ?_ | apply Qj | apply Qk | apply Ql | apply Qm | apply Qo | apply Qp | apply Qw | apply Qv | apply Qu | apply Qt | apply Qs | apply Qr | apply Qq | apply Qx | apply wrapS | apply Qy | (with_reducible exact lenNil) | apply Eq.refl)) | ((with_reducible first | apply Y1 | apply Y2 | apply Y3 | show blkEq _ _ _); conv => whnf))
  all_goals first | omega | rfl | trace_state
def opF (t : Th) (s op a b c : Int) : Th :=
  if op = 1 then setRg (setPc t (t.pc + 1)) a b
  else if op = 2 then setRg (setPc t (t.pc + 1)) a (getR t b)
  else if op = 3 then setRg (setPc t (t.pc + 1)) a (IntKind.i64.wrap (getR t b + c))
  else if op = 4 then setRg (setPc t (t.pc + 1)) a (Go.bits .and .i64 (getR t b) c)
  else if op = 5 then setRg (setPc t (t.pc + 1)) a (IntKind.i64.wrap (getR t b + getR t c))
  else if op = 6 then setRg (setPc t (t.pc + 1)) a (IntKind.i64.wrap (getR t b - getR t c))
  else if op = 7 then setRg (setPc t (t.pc + 1)) a (Go.bits .and .i64 (getR t b) (getR t c))
  else if op = 8 then setRg (setPc t (t.pc + 1)) a (Go.bits .xor .i64 (getR t b) (getR t c))
  else if op = 9 then setRg (setPc t (t.pc + 1)) a (if getR t b < getR t c then 1 else 0)
  else if op = 10 then setPc t a
  else if op = 11 then (if getR t a = 0 then setPc t b else setPc t (t.pc + 1))
  else if op = 12 then (if getR t a = 0 then setPc t (t.pc + 1) else setPc t b)
  else setRg (setPc t (t.pc + 1)) a s
def applyF (t : Th) (s op a b c : Int) : Th × Int := if op = 13 then callF t a else if op = 14 then backF t else (opF t s op a b c, 0)
theorem ap9t {t : Th} {s a b c : Int} (h : getR t b < getR t c) : applyF t s 9 a b c = (setRg (setPc t (t.pc + 1)) a 1, 0) := by
  show (setRg _ a (if _ then _ else _), (0 : Int)) = _
  rw [if_pos h]
theorem ap9f {t : Th} {s a b c : Int} (h : ¬ getR t b < getR t c) : applyF t s 9 a b c = (setRg (setPc t (t.pc + 1)) a 0, 0) := by
  show (setRg _ a (if _ then _ else _), (0 : Int)) = _
  rw [if_neg h]
theorem ap11t {t : Th} {s a b c : Int} (h : getR t a = 0) : applyF t s 11 a b c = (setPc t b, 0) := by
  simp [applyF, opF, h]
theorem ap11f {t : Th} {s a b c : Int} (h : ¬ getR t a = 0) : applyF t s 11 a b c = (setPc t (t.pc + 1), 0) := by
  simp [applyF, opF, h]
theorem ap12t {t : Th} {s a b c : Int} (h : getR t a = 0) : applyF t s 12 a b c = (setPc t (t.pc + 1), 0) := by
  simp [applyF, opF, h]
theorem ap12f {t : Th} {s a b c : Int} (h : ¬ getR t a = 0) : applyF t s 12 a b c = (setPc t b, 0) := by
  simp [applyF, opF, h]
theorem applyF_lf {t : Th} {s op a b c : Int} (h3 : ¬ op = 13) (h4 : ¬ op = 14) : (applyF t s op a b c).1.lf = t.lf := by
  unfold applyF opF
  rw [if_neg h3, if_neg h4]
  have key : ∀ (c : Prop) [Decidable c] (x y : Th), x.lf = t.lf → y.lf = t.lf → (if c then x else y).lf = t.lf := fun c _ x y h1 h2 => by split <;> assumption
  show Th.lf (if _ then _ else _) = _
  repeat' (first | rfl | apply key)
def sRApply : FSpec := spec (Th × Int × Int × Int × Int × Int) (fun (t, s, op, a, b, c) => [.agg (thC t), .i s, .agg [.i op, .i a, .i b, .i c]]) (fun (t, _, op, a, b, c) => thR t = true ∧ ¬ t.pc = 1000 ∧ locF op = true ∧ mayI op a b c = true)
  fun (t, s, op, a, b, c) => .tup [rTh (applyF t s op a b c).1, .c (.i (applyF t s op a b c).2)]
theorem mayI_iff {op a b c : Int} : mayI op a b c = true ↔ (∀ k : Nat, (k : Int) < regsF op → 0 ≤ [a, b, c].getD k 0 ∧ [a, b, c].getD k 0 ≤ 7) ∧ (0 ≤ jumpF op → 0 ≤ [a, b, c].getD (jumpF op).toNat 0 ∧ [a, b, c].getD (jumpF op).toNat 0 ≤ 1000) := by
  simp only [mayI, Bool.and_eq_true, List.all_eq_true, List.mem_range, inF, decide_eq_true_eq, Bool.or_eq_true]
  constructor
  · rintro ⟨h1, h2⟩
    exact ⟨fun k hk => h1 k (by omega), fun h => by rcases h2 with h2 | h2; omega; exact h2⟩
  · rintro ⟨h1, h2⟩
    exact ⟨fun k hk => h1 k (by omega), by by_cases h : jumpF op < 0; exact .inl h; exact .inr (h2 (by omega))⟩
def L3 : List (Nat × FSpec) := [(107, sSetA), (105, sRCall), (106, sRBack)]
theorem L3_ok : GOK Tryz.prog (tab L3) := gok_cons setA_ok (gok_cons rcall_ok (gok_cons rback_ok (gok_nil _)))
set_option maxHeartbeats 8000000 in
set_option maxRecDepth 100000 in
theorem rapply_ok : Meets Tryz.prog 59 sRApply := by
  refine meets_plain L3_ok rfl [] (fn := Tryz.f59) rfl rfl rfl (by decide) fun ⟨⟨pc, r0, r1, r2, r3, r4, r5, r6, r7, fs, st, fa, lf⟩, s, op, a, b, c⟩ ⟨hr, hp, hl, hm⟩ => ?_
  have hp : ¬ pc = 1000 := hp
  have hpc : 0 ≤ pc ∧ pc ≤ 1000 := placeF_iff.1 (thR_iff.1 hr).1
  have hl : 1 ≤ op ∧ op ≤ 15 := of_decide_eq_true hl
  have hm := mayI_iff.1 hm
  have m0 := hm.1 0
  have m1 := hm.1 1
  have m2 := hm.1 2
  have mj := hm.2
  clear hm
  have hw : IntKind.i64.wrap (pc + 1) = pc + 1 := wrap_i64 (by omega)
  have hop : op = 1 ∨ op = 2 ∨ op = 3 ∨ op = 4 ∨ op = 5 ∨ op = 6 ∨ op = 7 ∨ op = 8 ∨ op = 9 ∨ op = 10 ∨ op = 11 ∨ op = 12 ∨ op = 13 ∨ op = 14 ∨ op = 15 := by omega
  rcases hop with rfl | rfl | rfl | rfl | rfl | rfl | rfl | rfl | rfl | rfl | rfl | rfl | rfl | rfl | rfl
  all_goals repeat' (first | exact @id (emp _ = true) | (intro h; first | exact Bool.noConfusion h | (simp only [Qn] at h) | skip) | ((conv => whnf) <;> (first | exact trivial | apply Qa | apply And.intro | apply CutE.goR8 | apply CutE.goTh1 | apply CutE.goTh | apply Qb | apply Qc | apply Qd | apply Qe | apply Qf | apply Qg | apply Qh | apply Qi | exact QA | exact QP | refine QG ?_ | apply Qj | apply Qk | apply Ql | apply Qm | apply Qo | apply Qp | apply Qw | apply Qv | apply Qu | apply Qt | apply Qs | apply Qr | apply Qq | apply Qx | apply wrapS | apply Qy | (with_reducible exact lenNil) | apply Eq.refl)) | ((with_reducible first | apply Y1 | apply Y2 | apply Y3 | show blkEq _ _ _); conv => whnf))
  all_goals try (have m0 := m0 (by decide))
  all_goals try (have m1 := m1 (by decide))
  all_goals try (have m2 := m2 (by decide))
  all_goals try simp only [List.getD_cons_zero, List.getD_cons_succ] at m0 m1 m2
  all_goals first
    | omega
    | exact hw.symm
    | exact hr
    | exact hp
    | exact placeF_iff.2 (mj (by decide))
    | rfl
    | (rw [ap9t (t := ⟨pc, r0, r1, r2, r3, r4, r5, r6, r7, fs, st, fa, lf⟩) h]; done)
    | (rw [ap9t (t := ⟨pc, r0, r1, r2, r3, r4, r5, r6, r7, fs, st, fa, lf⟩) h]; rfl)
    | (rw [ap9t (t := ⟨pc, r0, r1, r2, r3, r4, r5, r6, r7, fs, st, fa, lf⟩) h]; exact hw.symm)
    | (rw [ap9f (t := ⟨pc, r0, r1, r2, r3, r4, r5, r6, r7, fs, st, fa, lf⟩) h]; done)
    | (rw [ap9f (t := ⟨pc, r0, r1, r2, r3, r4, r5, r6, r7, fs, st, fa, lf⟩) h]; rfl)
    | (rw [ap9f (t := ⟨pc, r0, r1, r2, r3, r4, r5, r6, r7, fs, st, fa, lf⟩) h]; exact hw.symm)
    | (rw [ap11t (t := ⟨pc, r0, r1, r2, r3, r4, r5, r6, r7, fs, st, fa, lf⟩) h]; done)
    | (rw [ap11t (t := ⟨pc, r0, r1, r2, r3, r4, r5, r6, r7, fs, st, fa, lf⟩) h]; rfl)
    | (rw [ap11t (t := ⟨pc, r0, r1, r2, r3, r4, r5, r6, r7, fs, st, fa, lf⟩) h]; exact hw.symm)
    | (rw [ap11f (t := ⟨pc, r0, r1, r2, r3, r4, r5, r6, r7, fs, st, fa, lf⟩) h]; done)
    | (rw [ap11f (t := ⟨pc, r0, r1, r2, r3, r4, r5, r6, r7, fs, st, fa, lf⟩) h]; rfl)
    | (rw [ap11f (t := ⟨pc, r0, r1, r2, r3, r4, r5, r6, r7, fs, st, fa, lf⟩) h]; exact hw.symm)
    | (rw [ap12t (t := ⟨pc, r0, r1, r2, r3, r4, r5, r6, r7, fs, st, fa, lf⟩) h]; done)
    | (rw [ap12t (t := ⟨pc, r0, r1, r2, r3, r4, r5, r6, r7, fs, st, fa, lf⟩) h]; rfl)
    | (rw [ap12t (t := ⟨pc, r0, r1, r2, r3, r4, r5, r6, r7, fs, st, fa, lf⟩) h]; exact hw.symm)
    | (rw [ap12f (t := ⟨pc, r0, r1, r2, r3, r4, r5, r6, r7, fs, st, fa, lf⟩) h]; done)
    | (rw [ap12f (t := ⟨pc, r0, r1, r2, r3, r4, r5, r6, r7, fs, st, fa, lf⟩) h]; rfl)
    | (rw [ap12f (t := ⟨pc, r0, r1, r2, r3, r4, r5, r6, r7, fs, st, fa, lf⟩) h]; exact hw.symm)
    | (rw [ap11t (t := ⟨pc, r0, r1, r2, r3, r4, r5, r6, r7, fs, st, fa, lf⟩) (by assumption)]; done)
    | (rw [ap11t (t := ⟨pc, r0, r1, r2, r3, r4, r5, r6, r7, fs, st, fa, lf⟩) (by assumption)]; rfl)
    | (rw [ap11f (t := ⟨pc, r0, r1, r2, r3, r4, r5, r6, r7, fs, st, fa, lf⟩) (by assumption)]; done)
    | (rw [ap11f (t := ⟨pc, r0, r1, r2, r3, r4, r5, r6, r7, fs, st, fa, lf⟩) (by assumption)]; rfl)
    | (rw [ap12t (t := ⟨pc, r0, r1, r2, r3, r4, r5, r6, r7, fs, st, fa, lf⟩) (by assumption)]; done)
    | (rw [ap12t (t := ⟨pc, r0, r1, r2, r3, r4, r5, r6, r7, fs, st, fa, lf⟩) (by assumption)]; rfl)
    | (rw [ap12f (t := ⟨pc, r0, r1, r2, r3, r4, r5, r6, r7, fs, st, fa, lf⟩) (by assumption)]; done)
    | (rw [ap12f (t := ⟨pc, r0, r1, r2, r3, r4, r5, r6, r7, fs, st, fa, lf⟩) (by assumption)]; rfl)
    | (rw [applyF_lf (by decide) (by decide)] at h; exact h)
    | (rw [callF_go hh h6] at h; exact h)
    | (rw [backF_go hh h6] at h; exact h)
    | assumption
    | (split <;> exact h)
    | trace_state
end Go.Eng
