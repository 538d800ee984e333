/- A part of the walks, and of the machine that proves them (FrA). -/
import Derived.Test.YtgahcoccodhkmaaGreatBuA
import Derived.Test.YtgahcoccodhkmaaGreatMeA
import Derived.Test.YtgahcoccodhkmaaGreatProg
set_option linter.unusedVariables false
set_option linter.unusedSimpArgs false
namespace Go.Eng
open Go Go.Proofs
def emp (l : List Int) : Bool := decide (l.length = 0)
abbrev lfS (l : List Int) : Cell := .ro l.length 1 (emp l) (slG encI l)
structure FrT where
  back : Int
  k0 : Int
  k1 : Int
  k2 : Int
  k3 : Int
  deriving DecidableEq, Inhabited
structure Th where
  pc : Int
  r0 : Int
  r1 : Int
  r2 : Int
  r3 : Int
  r4 : Int
  r5 : Int
  r6 : Int
  r7 : Int
  fs : List FrT
  st : Int
  fa : Int
  lf : List Int
  deriving DecidableEq
def encFr (f : FrT) : List Cell := [.i f.back, .i f.k0, .i f.k1, .i f.k2, .i f.k3]
abbrev frsS (l : List FrT) : Cell := slC 5 encFr l
def thC (t : Th) : List Cell := [.i t.pc, .i t.r0, .i t.r1, .i t.r2, .i t.r3, .i t.r4, .i t.r5, .i t.r6, .i t.r7, frsS t.fs, .i t.st, .i t.fa, lfS t.lf]
def thW (t : Th) : List Cell := [.i t.pc, .i t.r0, .i t.r1, .i t.r2, .i t.r3, .i t.r4, .i t.r5, .i t.r6, .i t.r7, frsS t.fs, .i t.st, .i t.fa, intsS t.lf]
theorem CutE.goTh {p : Th → Prop} {pc r0 r1 r2 r3 r4 r5 r6 r7 : Int} {fs : List FrT} {st fa : Int} {lf : List Int} (h : p ⟨pc, r0, r1, r2, r3, r4, r5, r6, r7, fs, st, fa, lf⟩) : CutE Th p := ⟨⟨_, h⟩⟩
theorem CutE.goTh1 {A : Type} {p : Th × A → Prop} {pc r0 r1 r2 r3 r4 r5 r6 r7 : Int} {fs : List FrT} {st fa : Int} {lf : List Int} {a : A} (h : p (⟨pc, r0, r1, r2, r3, r4, r5, r6, r7, fs, st, fa, lf⟩, a)) : CutE (Th × A) p := ⟨⟨_, h⟩⟩
def SmallT (t : Th) : Prop := t.fs.length ≤ 1000000 ∧ t.lf.length ≤ 1000000
def placeF (n : Int) : Bool := decide (0 ≤ n ∧ n ≤ 1000)
def badN (n : Int) : Bool := decide (n < 0 ∨ 8 < n)
def idxW {α : Type} (p : α → Bool) : List α → Nat → Int
  | [], _ => -1
  | x :: r, k => if p x = true then k else idxW p r (k + 1)
theorem idxW_any {α : Type} (p : α → Bool) : ∀ (b : List α) (k : Nat), decide (0 ≤ idxW p b k) = b.any p
  | [], _ => rfl
  | x :: r, k => by
    rw [idxW, List.any_cons]
    by_cases h : p x = true
    · rw [if_pos h, h]; simp
    · have h' : p x = false := by simpa using h
      rw [if_neg h, h', idxW_any p r (k + 1)]; rfl
def sPlace : FSpec := spec Int (fun n => [.i n]) (fun _ => True) fun n => .b (placeF n)
def sBadF : FSpec := spec FrT (fun f => [.agg (encFr f)]) (fun _ => True) fun f => .b (!placeF f.back)
def sBadN : FSpec := spec Int (fun n => [.i n]) (fun _ => True) fun n => .b (badN n)
set_option maxHeartbeats 4000000 in
set_option maxRecDepth 100000 in
theorem place_ok : Meets Tryz.prog 90 sPlace := by
  refine meets_plain (gok_nil _) rfl [] (fn := Tryz.f90) rfl rfl rfl (by decide) fun n _ => ?_
  repeat' (first | exact @id (emp _ = true) | (intro h; first | exact Bool.noConfusion h | (simp only [Qn] at h) | skip) | ((conv => whnf) <;> (first | exact trivial | apply Qa | apply And.intro | apply Qb | apply Qc | apply Qd | apply Qe | apply Qf | apply Qg | apply Qh | apply Qi | exact QA | exact QP | refine QG ?_ | apply Qj | apply Qk | apply Ql | apply Qm | apply Qo | apply Qp | apply Qw | apply Qv | apply Qu | apply Qt | apply Qs | apply Qr | apply Qq | apply Qx | apply wrapS | apply Qy | (with_reducible exact lenNil) | apply Eq.refl)) | ((with_reducible first | apply Y1 | apply Y2 | apply Y3 | show blkEq _ _ _); conv => whnf))
  all_goals first
    | (show placeF n = _; simp only [placeF]; (first | (apply decide_eq_false; omega) | (apply decide_eq_true; omega) | (congr 1; apply propext; omega)))
    | (rw [callF_go hh h6] at h; exact h)
    | (rw [backF_go hh h6] at h; exact h)
    | assumption
    | (split <;> exact h)
    | trace_state
def F1 : List (Nat × FSpec) := [(90, sPlace)]
theorem F1_ok : GOK Tryz.prog (tab F1) := gok_cons place_ok (gok_nil _)
set_option maxHeartbeats 4000000 in
set_option maxRecDepth 100000 in
theorem badF_ok : Meets Tryz.prog 92 sBadF := by
  refine meets_plain F1_ok rfl [] (fn := Tryz.f92) rfl rfl rfl (by decide) fun f _ => ?_
  repeat' (first | exact @id (emp _ = true) | (intro h; first | exact Bool.noConfusion h | (simp only [Qn] at h) | skip) | ((conv => whnf) <;> (first | exact trivial | apply Qa | apply And.intro | apply Qb | apply Qc | apply Qd | apply Qe | apply Qf | apply Qg | apply Qh | apply Qi | exact QA | exact QP | refine QG ?_ | apply Qj | apply Qk | apply Ql | apply Qm | apply Qo | apply Qp | apply Qw | apply Qv | apply Qu | apply Qt | apply Qs | apply Qr | apply Qq | apply Qx | apply wrapS | apply Qy | (with_reducible exact lenNil) | apply Eq.refl)) | ((with_reducible first | apply Y1 | apply Y2 | apply Y3 | show blkEq _ _ _); conv => whnf))
set_option maxHeartbeats 4000000 in
set_option maxRecDepth 100000 in
theorem badN_ok : Meets Tryz.prog 93 sBadN := by
  refine meets_plain F1_ok rfl [] (fn := Tryz.f93) rfl rfl rfl (by decide) fun n _ => ?_
  repeat' (first | exact @id (emp _ = true) | (intro h; first | exact Bool.noConfusion h | (simp only [Qn] at h) | skip) | ((conv => whnf) <;> (first | exact trivial | apply Qa | apply And.intro | apply Qb | apply Qc | apply Qd | apply Qe | apply Qf | apply Qg | apply Qh | apply Qi | exact QA | exact QP | refine QG ?_ | apply Qj | apply Qk | apply Ql | apply Qm | apply Qo | apply Qp | apply Qw | apply Qv | apply Qu | apply Qt | apply Qs | apply Qr | apply Qq | apply Qx | apply wrapS | apply Qy | (with_reducible exact lenNil) | apply Eq.refl)) | ((with_reducible first | apply Y1 | apply Y2 | apply Y3 | show blkEq _ _ _); conv => whnf))
  all_goals first
    | (show badN n = _; simp only [badN]; (first | (apply decide_eq_false; omega) | (apply decide_eq_true; omega) | (congr 1; apply propext; omega)))
    | (rw [callF_go hh h6] at h; exact h)
    | (rw [backF_go hh h6] at h; exact h)
    | assumption
    | (split <;> exact h)
    | trace_state
def F2 : List (Nat × FSpec) := (92, sBadF) :: (93, sBadN) :: F1
theorem F2_ok : GOK Tryz.prog (tab F2) := gok_cons badF_ok (gok_cons badN_ok F1_ok)
def badFr (f : FrT) : Bool := !placeF f.back
def sIdxF : FSpec := spec (List FrT) (fun l => [.c (frsS l), .c (.fn 92 [])]) (fun l => l.length ≤ 1000000) fun l => .i (idxW badFr l 0)
def sIdxN : FSpec := spec (List Int) (fun l => [.c (intsS l), .c (.fn 93 [])]) (fun l => l.length ≤ 1000000) fun l => .i (idxW badN l 0)
set_option maxHeartbeats 4000000 in
set_option maxRecDepth 100000 in
theorem idxF_ok : Meets Tryz.prog 127 sIdxF := by
  refine meets_plain F2_ok rfl [] (fn := Tryz.f127) rfl rfl rfl (by decide) fun b hb => ?_
  have hb : b.length ≤ 1000000 := hb
  repeat' (first | exact @id (emp _ = true) | (intro h; first | exact Bool.noConfusion h | (simp only [Qn] at h) | skip) | ((conv => whnf) <;> (first | exact trivial | apply Qa | apply And.intro | apply Qb | apply Qc | apply Qd | apply Qe | apply Qf | apply Qg | apply Qh | apply Qi | exact QA | exact QP | refine QG ?_ | apply Qj | apply Qk | apply Ql | apply Qm | apply Qo | apply Qp | apply Qw | apply Qv | apply Qu | apply Qt | apply Qs | apply Qr | apply Qq | apply Qx | apply wrapS | apply Qy | (with_reducible exact lenNil) | apply Eq.refl)) | ((with_reducible first | apply Y1 | apply Y2 | apply Y3 | show blkEq _ _ _); conv => whnf))
  apply LoopP.up (G := Nat) (fun k => k ≤ b.length ∧ idxW badFr b 0 = idxW badFr (b.drop k) k) [0, 1, 7, 8] (fun k => [(8, .i k)]) (fun _ => []) 0 (fun k => b.length - k)
  apply And.intro
  · refine CutE.at 0 ?_
    repeat' (first | exact @id (emp _ = true) | (intro h; first | exact Bool.noConfusion h | (simp only [Qn] at h) | skip) | ((conv => whnf) <;> (first | exact trivial | apply Qa | apply And.intro | apply Qb | apply Qc | apply Qd | apply Qe | apply Qf | apply Qg | apply Qh | apply Qi | exact QA | exact QP | refine QG ?_ | apply Qj | apply Qk | apply Ql | apply Qm | apply Qo | apply Qp | apply Qw | apply Qv | apply Qu | apply Qt | apply Qs | apply Qr | apply Qq | apply Qx | apply wrapS | apply Qy | (with_reducible exact lenNil) | apply Eq.refl)) | ((with_reducible first | apply Y1 | apply Y2 | apply Y3 | show blkEq _ _ _); conv => whnf))
    all_goals try simp only [Int.toNat_natCast, Int.toNat_zero, ge_iff_le, gt_iff_lt, Int.ofNat_le, Int.ofNat_lt, Int.ofNat_inj] at *
    all_goals first
      | omega
      | (dsimp only; omega)
      | assumption
      | exact Up.zero _
      | (show ((8 : Nat) : Int) * _ ≤ _; omega)
      | (show _ * (8 : Nat) ≤ _; omega)
      | (show _ * (16 : Nat) ≤ _; omega)
      | (show _ * (24 : Nat) ≤ _; omega)
      | trace_state
  · intro k ⟨hk, hI⟩
    have hs : k < b.length → idxW badFr (b.drop k) k = if badFr (b.getD k default) = true then (k : Int) else idxW badFr (b.drop (k + 1)) (k + 1) := fun h => by rw [drop_getD (d := default) h, idxW]
    repeat' (first | exact @id (emp _ = true) | (intro h; first | exact Bool.noConfusion h | (simp only [Qn] at h) | skip) | ((conv => whnf) <;> (first | exact trivial | apply Qa | apply And.intro | refine CutE.at (A := Nat) (k + 1) ?_ | refine CutE.at (b.getD k default) ?_ | apply Qb | apply Qc | apply Qd | apply Qe | apply Qf | apply Qg | apply Qh | apply Qi | exact QA | exact QP | refine QG ?_ | apply Qj | apply Qk | apply Ql | apply Qm | apply Qo | apply Qp | apply Qw | apply Qv | apply Qu | apply Qt | apply Qs | apply Qr | apply Qq | apply Qx | apply wrapS | apply Qy | (with_reducible exact lenNil) | apply Eq.refl)) | ((with_reducible first | apply Y1 | apply Y2 | apply Y3 | show blkEq _ _ _); conv => whnf))
    all_goals try simp only [Int.toNat_natCast] at *
    all_goals first
      | omega
      | (rw [hI, hs (by omega), if_pos (show badFr _ = true by rw [badFr, h]; rfl)])
      | (rw [hI, hs (by omega), if_neg (show ¬ badFr _ = true by rw [badFr, h]; simp)])
      | (rw [hI, List.drop_eq_nil_of_le (by omega)]; rfl)
      | (rw [callF_go hh h6] at h; exact h)
      | (rw [backF_go hh h6] at h; exact h)
      | assumption
      | (split <;> exact h)
      | trace_state
set_option maxHeartbeats 4000000 in
set_option maxRecDepth 100000 in
theorem idxN_ok : Meets Tryz.prog 114 sIdxN := by
  refine meets_plain F2_ok rfl [] (fn := Tryz.f114) rfl rfl rfl (by decide) fun b hb => ?_
  have hb : b.length ≤ 1000000 := hb
  repeat' (first | exact @id (emp _ = true) | (intro h; first | exact Bool.noConfusion h | (simp only [Qn] at h) | skip) | ((conv => whnf) <;> (first | exact trivial | apply Qa | apply And.intro | apply Qb | apply Qc | apply Qd | apply Qe | apply Qf | apply Qg | apply Qh | apply Qi | exact QA | exact QP | refine QG ?_ | apply Qj | apply Qk | apply Ql | apply Qm | apply Qo | apply Qp | apply Qw | apply Qv | apply Qu | apply Qt | apply Qs | apply Qr | apply Qq | apply Qx | apply wrapS | apply Qy | (with_reducible exact lenNil) | apply Eq.refl)) | ((with_reducible first | apply Y1 | apply Y2 | apply Y3 | show blkEq _ _ _); conv => whnf))
  apply LoopP.up (G := Nat) (fun k => k ≤ b.length ∧ idxW badN b 0 = idxW badN (b.drop k) k) [0, 1, 7, 8] (fun k => [(8, .i k)]) (fun _ => []) 0 (fun k => b.length - k)
  apply And.intro
  · refine CutE.at 0 ?_
    repeat' (first | exact @id (emp _ = true) | (intro h; first | exact Bool.noConfusion h | (simp only [Qn] at h) | skip) | ((conv => whnf) <;> (first | exact trivial | apply Qa | apply And.intro | apply Qb | apply Qc | apply Qd | apply Qe | apply Qf | apply Qg | apply Qh | apply Qi | exact QA | exact QP | refine QG ?_ | apply Qj | apply Qk | apply Ql | apply Qm | apply Qo | apply Qp | apply Qw | apply Qv | apply Qu | apply Qt | apply Qs | apply Qr | apply Qq | apply Qx | apply wrapS | apply Qy | (with_reducible exact lenNil) | apply Eq.refl)) | ((with_reducible first | apply Y1 | apply Y2 | apply Y3 | show blkEq _ _ _); conv => whnf))
    all_goals try simp only [Int.toNat_natCast, Int.toNat_zero, ge_iff_le, gt_iff_lt, Int.ofNat_le, Int.ofNat_lt, Int.ofNat_inj] at *
    all_goals first
      | omega
      | (dsimp only; omega)
      | assumption
      | exact Up.zero _
      | (show ((8 : Nat) : Int) * _ ≤ _; omega)
      | (show _ * (8 : Nat) ≤ _; omega)
      | (show _ * (16 : Nat) ≤ _; omega)
      | (show _ * (24 : Nat) ≤ _; omega)
      | trace_state
  · intro k ⟨hk, hI⟩
    have hs : k < b.length → idxW badN (b.drop k) k = if badN (b.getD k default) = true then (k : Int) else idxW badN (b.drop (k + 1)) (k + 1) := fun h => by rw [drop_getD (d := default) h, idxW]
    repeat' (first | exact @id (emp _ = true) | (intro h; first | exact Bool.noConfusion h | (simp only [Qn] at h) | skip) | ((conv => whnf) <;> (first | exact trivial | apply Qa | apply And.intro | refine CutE.at (A := Nat) (k + 1) ?_ | apply Qb | apply Qc | apply Qd | apply Qe | apply Qf | apply Qg | apply Qh | apply Qi | exact QA | exact QP | refine QG ?_ | apply Qj | apply Qk | apply Ql | apply Qm | apply Qo | apply Qp | apply Qw | apply Qv | apply Qu | apply Qt | apply Qs | apply Qr | apply Qq | apply Qx | apply wrapS | apply Qy | (with_reducible exact lenNil) | apply Eq.refl)) | ((with_reducible first | apply Y1 | apply Y2 | apply Y3 | show blkEq _ _ _); conv => whnf))
    all_goals try simp only [Int.toNat_natCast] at *
    all_goals first
      | omega
      | (rw [hI, hs (by omega), if_pos h])
      | (rw [hI, hs (by omega), h]; rfl)
      | (rw [hI, List.drop_eq_nil_of_le (by omega)]; rfl)
      | (rw [callF_go hh h6] at h; exact h)
      | (rw [backF_go hh h6] at h; exact h)
      | assumption
      | (split <;> exact h)
      | trace_state
end Go.Eng
namespace Go.Eng
open Go Go.Proofs
def F3 : List (Nat × FSpec) := (127, sIdxF) :: (114, sIdxN) :: F2
theorem F3_ok : GOK Tryz.prog (tab F3) := gok_cons idxF_ok (gok_cons idxN_ok F2_ok)
def sContF : FSpec := spec (List FrT) (fun l => [.c (frsS l), .c (.fn 92 [])]) (fun l => l.length ≤ 1000000) fun l => .b (l.any badFr)
def sContN : FSpec := spec (List Int) (fun l => [.c (intsS l), .c (.fn 93 [])]) (fun l => l.length ≤ 1000000) fun l => .b (l.any badN)
set_option maxHeartbeats 4000000 in
set_option maxRecDepth 100000 in
theorem contF_ok : Meets Tryz.prog 91 sContF := by
  refine meets_plain F3_ok rfl [] (fn := Tryz.f91) rfl rfl rfl (by decide) fun b hb => ?_
  have hi := idxW_any badFr b 0
  repeat' (first | exact @id (emp _ = true) | (intro h; first | exact Bool.noConfusion h | (simp only [Qn] at h) | skip) | ((conv => whnf) <;> (first | exact trivial | apply Qa | apply And.intro | apply Qb | apply Qc | apply Qd | apply Qe | apply Qf | apply Qg | apply Qh | apply Qi | exact QA | exact QP | refine QG ?_ | apply Qj | apply Qk | apply Ql | apply Qm | apply Qo | apply Qp | apply Qw | apply Qv | apply Qu | apply Qt | apply Qs | apply Qr | apply Qq | apply Qx | apply wrapS | apply Qy | (with_reducible exact lenNil) | apply Eq.refl)) | ((with_reducible first | apply Y1 | apply Y2 | apply Y3 | show blkEq _ _ _); conv => whnf))
  all_goals first
    | exact hb
    | exact hi.symm
    | (rw [callF_go hh h6] at h; exact h)
    | (rw [backF_go hh h6] at h; exact h)
    | assumption
    | (split <;> exact h)
    | trace_state
set_option maxHeartbeats 4000000 in
set_option maxRecDepth 100000 in
theorem contN_ok : Meets Tryz.prog 67 sContN := by
  refine meets_plain F3_ok rfl [] (fn := Tryz.f67) rfl rfl rfl (by decide) fun b hb => ?_
  have hi := idxW_any badN b 0
  repeat' (first | exact @id (emp _ = true) | (intro h; first | exact Bool.noConfusion h | (simp only [Qn] at h) | skip) | ((conv => whnf) <;> (first | exact trivial | apply Qa | apply And.intro | apply Qb | apply Qc | apply Qd | apply Qe | apply Qf | apply Qg | apply Qh | apply Qi | exact QA | exact QP | refine QG ?_ | apply Qj | apply Qk | apply Ql | apply Qm | apply Qo | apply Qp | apply Qw | apply Qv | apply Qu | apply Qt | apply Qs | apply Qr | apply Qq | apply Qx | apply wrapS | apply Qy | (with_reducible exact lenNil) | apply Eq.refl)) | ((with_reducible first | apply Y1 | apply Y2 | apply Y3 | show blkEq _ _ _); conv => whnf))
  all_goals first
    | exact hb
    | exact hi.symm
    | (rw [callF_go hh h6] at h; exact h)
    | (rw [backF_go hh h6] at h; exact h)
    | assumption
    | (split <;> exact h)
    | trace_state
def stF (st fa : Int) : Bool := decide ((st = 0 ∨ st = 1) ∧ fa = 0 ∨ st = 2 ∧ 1 ≤ fa ∧ fa ≤ 16)
def thR (t : Th) : Bool := placeF t.pc && decide (t.fs.length ≤ 6) && decide (t.lf.length ≤ 8) && !t.fs.any badFr && !t.lf.any badN && stF t.st t.fa
theorem thR_iff {t : Th} : thR t = true ↔ (placeF t.pc = true ∧ t.fs.length ≤ 6 ∧ t.lf.length ≤ 8 ∧ t.fs.any badFr = false ∧ t.lf.any badN = false ∧ stF t.st t.fa = true) := by
  simp only [thR, Bool.and_eq_true, decide_eq_true_eq, Bool.not_eq_true']
  exact ⟨fun ⟨⟨⟨⟨⟨a, b⟩, c⟩, d⟩, e⟩, f⟩ => ⟨a, b, c, d, e, f⟩, fun ⟨a, b, c, d, e, f⟩ => ⟨⟨⟨⟨⟨a, b⟩, c⟩, d⟩, e⟩, f⟩⟩
theorem thR_st {t : Th} (h1 : placeF t.pc = true) (h2 : t.fs.length ≤ 6) (h3 : t.lf.length ≤ 8) (h4 : t.fs.any badFr = false) (h5 : t.lf.any badN = false) : thR t = stF t.st t.fa := by
  rw [thR, h1, decide_eq_true h2, decide_eq_true h3, h4, h5]; rfl
theorem thR_no {t : Th} (h : ¬ (placeF t.pc = true ∧ t.fs.length ≤ 6 ∧ t.lf.length ≤ 8 ∧ t.fs.any badFr = false ∧ t.lf.any badN = false ∧ stF t.st t.fa = true)) : thR t = false := by
  cases e : thR t with
  | false => rfl
  | true => exact absurd (thR_iff.1 e) h
theorem stF_iff {st fa : Int} : stF st fa = true ↔ ((st = 0 ∨ st = 1) ∧ fa = 0 ∨ st = 2 ∧ 1 ≤ fa ∧ fa ≤ 16) := decide_eq_true_iff
def sThR : FSpec := spec Th (fun t => [.agg (thW t)]) (fun t => SmallT t) fun t => .b (thR t)
def F4 : List (Nat × FSpec) := (91, sContF) :: (67, sContN) :: F3
theorem F4_ok : GOK Tryz.prog (tab F4) := gok_cons contF_ok (gok_cons contN_ok F3_ok)
set_option maxHeartbeats 4000000 in
set_option maxRecDepth 100000 in
theorem thR_ok : Meets Tryz.prog 41 sThR := by
  refine meets_plain F4_ok rfl [] (fn := Tryz.f41) rfl rfl rfl (by decide) fun ⟨pc, r0, r1, r2, r3, r4, r5, r6, r7, fs, st, fa, lf⟩ hS => ?_
  repeat' (first | exact @id (emp _ = true) | (intro h; first | exact Bool.noConfusion h | (simp only [Qn] at h) | skip) | ((conv => whnf) <;> (first | exact trivial | apply Qa | apply And.intro | apply Qb | apply Qc | apply Qd | apply Qe | apply Qf | apply Qg | apply Qh | apply Qi | exact QA | exact QP | refine QG ?_ | apply Qj | apply Qk | apply Ql | apply Qm | apply Qo | apply Qp | apply Qw | apply Qv | apply Qu | apply Qt | apply Qs | apply Qr | apply Qq | apply Qx | apply wrapS | apply Qy | (with_reducible exact lenNil) | apply Eq.refl)) | ((with_reducible first | apply Y1 | apply Y2 | apply Y3 | show blkEq _ _ _); conv => whnf))
  all_goals first
    | exact hS.1
    | exact hS.2
    | (apply thR_no; rintro ⟨a, b, c, d, e, f⟩; simp only [*] at *; first | omega | contradiction)
    | (apply thR_no; rintro ⟨a, b, c, d, e, f⟩; have f := stF_iff.1 f; simp only at *; omega)
    | (rw [thR_st (by assumption) (by simp only; omega) (by simp only; omega) (by assumption) (by assumption)]
       show stF st fa = _
       rw [Bool.eq_iff_iff, stF_iff]
       simp only [beq_iff_eq, decide_eq_true_eq]
       omega)
    | (rw [callF_go hh h6] at h; exact h)
    | (rw [backF_go hh h6] at h; exact h)
    | assumption
    | (split <;> exact h)
    | trace_state
end Go.Eng
namespace Go.Eng
open Go Go.Proofs
def th0 : Th := ⟨0, 0, 0, 0, 0, 0, 0, 0, 0, [], 0, 0, []⟩
def rTh (t : Th) : Sv := .agg (thC t)
def callF (t : Th) (to : Int) : Th × Int :=
  if thR t = true ∧ ¬ t.pc = 1000 ∧ placeF to = true then (if t.fs.length = 6 then (th0, 13) else
    (⟨to, t.r0, t.r1, t.r2, t.r3, t.r4, t.r5, t.r6, t.r7, t.fs ++ [⟨t.pc + 1, t.r4, t.r5, t.r6, t.r7⟩], t.st, t.fa, t.lf⟩, 0)) else (th0, 1)
def backF (t : Th) : Th × Int :=
  if thR t = true then (if t.fs.length = 0 then (th0, 8) else
    (⟨(t.fs.getD (t.fs.length - 1) default).back, t.r0, t.r1, t.r2, t.r3, (t.fs.getD (t.fs.length - 1) default).k0, (t.fs.getD (t.fs.length - 1) default).k1, (t.fs.getD (t.fs.length - 1) default).k2, (t.fs.getD (t.fs.length - 1) default).k3, t.fs.take (t.fs.length - 1), t.st, t.fa, t.lf⟩, 0)) else (th0, 1)
def sClip : FSpec := spec (List FrT) (fun l => [.c (frsS l)]) (fun l => l.length ≤ 1000000) fun l => .c (.ro l.length 5 true (slG encFr l))
def sCloneF : FSpec := spec (List FrT) (fun l => [.c (frsS l)]) (fun l => l.length ≤ 1000000) fun l => .c (frsS l)
set_option maxHeartbeats 2000000 in
set_option maxRecDepth 100000 in
theorem clip_ok : Meets Tryz.prog 144 sClip := by
  refine meets_plain (gok_nil _) rfl [] (fn := Tryz.f144) rfl rfl rfl (by decide) fun l hl => ?_
  repeat' (first | exact @id (emp _ = true) | (intro h; first | exact Bool.noConfusion h | (simp only [Qn] at h) | skip) | ((conv => whnf) <;> (first | exact trivial | apply Qa | apply And.intro | apply Qb | apply Qc | apply Qd | apply Qe | apply Qf | apply Qg | apply Qh | apply Qi | exact QA | exact QP | refine QG ?_ | apply Qj | apply Qk | apply Ql | apply Qm | apply Qo | apply Qp | apply Qw | apply Qv | apply Qu | apply Qt | apply Qs | apply Qr | apply Qq | apply Qx | apply wrapS | apply Qy | (with_reducible exact lenNil) | apply Eq.refl)) | ((with_reducible first | apply Y1 | apply Y2 | apply Y3 | show blkEq _ _ _); conv => whnf))
  all_goals first
    | omega
    | (show l.length = (((l.length : Int) - 0).toNat); omega)
    | (show slG encFr l _ _ = slG encFr l (0 + _) _; rw [Nat.zero_add])
    | (rw [callF_go hh h6] at h; exact h)
    | (rw [backF_go hh h6] at h; exact h)
    | assumption
    | (split <;> exact h)
    | trace_state
set_option maxHeartbeats 2000000 in
set_option maxRecDepth 100000 in
theorem cloneF_ok : Meets Tryz.prog 145 sCloneF := by
  refine meets_plain (gok_nil _) rfl [] (fn := Tryz.f145) rfl rfl rfl (by decide) fun l hl => ?_
  have hl : l.length ≤ 1000000 := hl
  repeat' (first | exact @id (emp _ = true) | (intro h; first | exact Bool.noConfusion h | (simp only [Qn] at h) | skip) | ((conv => whnf) <;> (first | exact trivial | apply Qa | apply And.intro | apply Qb | apply Qc | apply Qd | apply Qe | apply Qf | apply Qg | apply Qh | apply Qi | exact QA | exact QP | refine QG ?_ | apply Qj | apply Qk | apply Ql | apply Qm | apply Qo | apply Qp | apply Qw | apply Qv | apply Qu | apply Qt | apply Qs | apply Qr | apply Qq | apply Qx | apply wrapS | apply Qy | (with_reducible exact lenNil) | apply Eq.refl)) | ((with_reducible first | apply Y1 | apply Y2 | apply Y3 | show blkEq _ _ _); conv => whnf))
  all_goals try simp only at *
  all_goals first
    | omega
    | (show (0 + l.length) * 40 ≤ _; omega)
    | (rw [callF_go hh h6] at h; exact h)
    | (rw [backF_go hh h6] at h; exact h)
    | assumption
    | (split <;> exact h)
    | trace_state
def F5 : List (Nat × FSpec) := (41, sThR) :: (144, sClip) :: (145, sCloneF) :: F4
theorem F5_ok : GOK Tryz.prog (tab F5) := gok_cons thR_ok (gok_cons clip_ok (gok_cons cloneF_ok F4_ok))
theorem callF_no {t : Th} {to : Int} (h : ¬ (thR t = true ∧ ¬ t.pc = 1000 ∧ placeF to = true)) : callF t to = (th0, 1) := by rw [callF, if_neg h]
theorem callF_deep {t : Th} {to : Int} (h : thR t = true ∧ ¬ t.pc = 1000 ∧ placeF to = true) (h6 : t.fs.length = 6) : callF t to = (th0, 13) := by rw [callF, if_pos h, if_pos h6]
theorem callF_go {t : Th} {to : Int} (h : thR t = true ∧ ¬ t.pc = 1000 ∧ placeF to = true) (h6 : ¬ t.fs.length = 6) : callF t to = (⟨to, t.r0, t.r1, t.r2, t.r3, t.r4, t.r5, t.r6, t.r7, t.fs ++ [⟨t.pc + 1, t.r4, t.r5, t.r6, t.r7⟩], t.st, t.fa, t.lf⟩, 0) := by rw [callF, if_pos h, if_neg h6]
theorem backF_no {t : Th} (h : ¬ thR t = true) : backF t = (th0, 1) := by rw [backF, if_neg h]
theorem backF_none {t : Th} (h : thR t = true) (h6 : t.fs.length = 0) : backF t = (th0, 8) := by rw [backF, if_pos h, if_pos h6]
theorem backF_go {t : Th} (h : thR t = true) (h6 : ¬ t.fs.length = 0) : backF t = (⟨(t.fs.getD (t.fs.length - 1) default).back, t.r0, t.r1, t.r2, t.r3, (t.fs.getD (t.fs.length - 1) default).k0, (t.fs.getD (t.fs.length - 1) default).k1, (t.fs.getD (t.fs.length - 1) default).k2, (t.fs.getD (t.fs.length - 1) default).k3, t.fs.take (t.fs.length - 1), t.st, t.fa, t.lf⟩, 0) := by rw [backF, if_pos h, if_neg h6]
theorem placeF_iff {n : Int} : placeF n = true ↔ (0 ≤ n ∧ n ≤ 1000) := decide_eq_true_iff
def sCall : FSpec := spec (Th × Int) (fun (t, to) => [.agg (thC t), .i to]) (fun (t, _) => SmallT t) fun (t, to) => .tup [rTh (callF t to).1, .c (.i (callF t to).2)]
set_option maxHeartbeats 4000000 in
set_option maxRecDepth 100000 in
theorem call_ok : Meets Tryz.prog 119 sCall := by
  refine meets_plain F5_ok rfl [] (fn := Tryz.f119) rfl rfl rfl (by decide) fun ⟨⟨pc, r0, r1, r2, r3, r4, r5, r6, r7, fs, st, fa, lf⟩, to⟩ hS => ?_
  have hS1 : fs.length ≤ 1000000 := hS.1
  repeat' (first | exact @id (emp _ = true) | (intro h; first | exact Bool.noConfusion h | (simp only [Qn] at h) | skip) | ((conv => whnf) <;> (first | exact trivial | apply Qa | apply And.intro | apply CutE.goTh | apply Qb | apply Qc | apply Qd | apply Qe | apply Qf | apply Qg | apply Qh | apply Qi | exact QA | exact QP | refine QG ?_ | apply Qj | apply Qk | apply Ql | apply Qm | apply Qo | apply Qp | apply Qw | apply Qv | apply Qu | apply Qt | apply Qs | apply Qr | apply Qq | apply Qx | apply wrapS | apply Qy | (with_reducible exact lenNil) | apply Eq.refl)) | ((with_reducible first | apply Y1 | apply Y2 | apply Y3 | show blkEq _ _ _); conv => whnf))
  all_goals try first
    | exact hS.1
    | exact hS.2
    | omega
    | (show (fs.length + 1) * 40 ≤ _; omega)
    | (show fs.length + 1 ≤ _; omega)
  all_goals (by_cases hh : thR ⟨pc, r0, r1, r2, r3, r4, r5, r6, r7, fs, st, fa, lf⟩ = true ∧ ¬ pc = 1000 ∧ placeF to = true)
  all_goals (by_cases h6 : fs.length = 6)
  all_goals first
    | (rw [callF_no hh]; done)
    | (rw [callF_no hh]; rfl)
    | (rw [callF_deep hh h6]; done)
    | (rw [callF_deep hh h6]; rfl)
    | (rw [callF_go hh h6]; done)
    | (rw [callF_go hh h6]; rfl)
    | (exfalso; exact hh ⟨by assumption, by assumption, by assumption⟩)
    | (exfalso; simp_all; done)
    | (exfalso; omega)
    | (have hp : 0 ≤ pc ∧ pc ≤ 1000 := (placeF_iff.1 (thR_iff.1 hh.1).1)
       rename_i i hi t
       rw [callF_go hh h6] at hi ⊢
       have hw : IntKind.i64.wrap (pc + 1) = pc + 1 := wrap_i64 (by omega)
       have key := (slG_snoc (enc := encFr) (l := fs) (k := 5) (n := fs.length) (x := ⟨pc + 1, r4, r5, r6, r7⟩) rfl rfl i (by simpa using hi) t h).symm
       have e : encFr ⟨pc + 1, r4, r5, r6, r7⟩ = [.i (IntKind.i64.wrap (pc + 1)), .i r4, .i r5, .i r6, .i r7] := congrArg (fun z => [Cell.i z, .i r4, .i r5, .i r6, .i r7]) hw.symm
       rw [e] at key
       exact key)
    | (rw [callF_go hh h6]; simp; done)
    | (rw [callF_go hh h6] at h; exact h)
    | (rw [backF_go hh h6] at h; exact h)
    | assumption
    | (split <;> exact h)
    | trace_state
def sBackF : FSpec := spec Th (fun t => [.agg (thC t)]) (fun t => SmallT t) fun t => .tup [rTh (backF t).1, .c (.i (backF t).2)]
set_option maxHeartbeats 4000000 in
set_option maxRecDepth 100000 in
theorem backF_ok : Meets Tryz.prog 120 sBackF := by
  refine meets_plain F5_ok rfl [] (fn := Tryz.f120) rfl rfl rfl (by decide) fun ⟨pc, r0, r1, r2, r3, r4, r5, r6, r7, fs, st, fa, lf⟩ hS => ?_
  have hS1 : fs.length ≤ 1000000 := hS.1
  have hw : ¬ fs.length = 0 → IntKind.i64.wrap ((fs.length : Int) - 1) = ((fs.length - 1 : Nat) : Int) := fun h => by rw [wrap_i64 (by omega)]; omega
  repeat' (first | exact @id (emp _ = true) | (intro h; first | exact Bool.noConfusion h | (simp only [Qn] at h) | skip) | ((conv => whnf) <;> (first | exact trivial | apply Qa | apply And.intro | apply CutE.goTh | apply Qb | apply Qc | apply Qd | apply Qe | apply Qf | apply Qg | apply Qh | apply Qi | exact QA | exact QP | refine QG ?_ | apply Qj | apply Qk | apply Ql | apply Qm | apply Qo | apply Qp | apply Qw | apply Qv | apply Qu | apply Qt | apply Qs | apply Qr | apply Qq | apply Qx | apply wrapS | apply Qy | (with_reducible exact lenNil) | apply Eq.refl)) | ((with_reducible first | apply Y1 | apply Y2 | apply Y3 | show blkEq _ _ _); conv => whnf))
  all_goals try first
    | exact hS.1
    | exact hS.2
    | omega
  all_goals (by_cases hh : thR ⟨pc, r0, r1, r2, r3, r4, r5, r6, r7, fs, st, fa, lf⟩ = true)
  all_goals (by_cases h6 : fs.length = 0)
  all_goals try simp only [hw h6, Int.toNat_natCast] at *
  all_goals first
    | (rw [backF_no hh]; done)
    | (rw [backF_no hh]; rfl)
    | (rw [backF_none hh h6]; done)
    | (rw [backF_none hh h6]; rfl)
    | (rw [backF_go hh h6]; done)
    | (rw [backF_go hh h6]; rfl)
    | (rw [backF_go hh h6]; show (fs.take (fs.length - 1)).length = _; rw [List.length_take]; omega)
    | (show (backF _).1.fs.length ≤ 1000000; rw [backF_go hh h6]; show (fs.take (fs.length - 1)).length ≤ _; rw [List.length_take]; omega)
    | (rename_i i hi t
       rw [backF_go hh h6] at hi ⊢
       show slG encFr (fs.take (fs.length - 1)) i t = slG encFr fs (0 + i) t
       have hi : i < (fs.take (fs.length - 1)).length := hi
       rw [List.length_take] at hi
       rw [Nat.zero_add, slG_take _ _ _ _ (by omega)])
    | (exfalso; exact hh (by assumption))
    | (exfalso; omega)
    | omega
    | (exfalso; simp_all; done)
    | (rw [callF_go hh h6] at h; exact h)
    | (rw [backF_go hh h6] at h; exact h)
    | assumption
    | (split <;> exact h)
    | trace_state
end Go.Eng
