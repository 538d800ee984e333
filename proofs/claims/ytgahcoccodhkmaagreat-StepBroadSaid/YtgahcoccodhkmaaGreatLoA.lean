/- A part of the walks, and of the machine that proves them (LoA). -/
import Derived.Test.YtgahcoccodhkmaaGreatFrB
set_option linter.unusedVariables false
set_option linter.unusedSimpArgs false
namespace Go.Eng
open Go Go.Proofs
def wkC (t : Th) (s op a b c : Int) : List Cell := [.i t.pc, .i t.r0, .i t.r1, .i t.r2, .i t.r3, .i t.r4, .i t.r5, .i t.r6, .i t.r7, frsS t.fs, .i t.st, .i t.fa, lfS t.lf, .i s, .i op, .i a, .i b, .i c]
abbrev Wk := Th × Int × Int × Int × Int × Int
theorem CutE.goWk {p : Wk → Prop} {pc r0 r1 r2 r3 r4 r5 r6 r7 : Int} {fs : List FrT} {st fa : Int} {lf : List Int} {s op a b c : Int} (h : p (⟨pc, r0, r1, r2, r3, r4, r5, r6, r7, fs, st, fa, lf⟩, s, op, a, b, c)) : CutE Wk p := ⟨⟨_, h⟩⟩
theorem CutE.goWkV {p : Th × Int × Int × Int × Int × Int × Int → Prop} {pc r0 r1 r2 r3 r4 r5 r6 r7 : Int} {fs : List FrT} {st fa : Int} {lf : List Int} {s op a b c v : Int} (h : p (⟨pc, r0, r1, r2, r3, r4, r5, r6, r7, fs, st, fa, lf⟩, s, op, a, b, c, v)) : CutE (Th × Int × Int × Int × Int × Int × Int) p := ⟨⟨_, h⟩⟩
def setRg (t : Th) (k v : Int) : Th := ⟨t.pc, if k = 0 then v else t.r0, if k = 1 then v else t.r1, if k = 2 then v else t.r2, if k = 3 then v else t.r3, if k = 4 then v else t.r4, if k = 5 then v else t.r5, if k = 6 then v else t.r6, if k = 7 then v else t.r7, t.fs, t.st, t.fa, t.lf⟩
def setPc (t : Th) (e : Int) : Th := ⟨e, t.r0, t.r1, t.r2, t.r3, t.r4, t.r5, t.r6, t.r7, t.fs, t.st, t.fa, t.lf⟩
def getR (t : Th) (k : Int) : Int := [t.r0, t.r1, t.r2, t.r3, t.r4, t.r5, t.r6, t.r7].getD k.toNat 0
def sSet : FSpec := lentSpec 1 (Th × Int × Int × Int × Int × Int × Int) (fun (_, _, _, _, _, _, v) => [.c (.ptr 0 0), .i v]) (fun (t, s, op, a, b, c, _) => [.row 159 (wkC t s op a b c)]) (fun (_, _, _, a, _) => 0 ≤ a ∧ a < 8) (fun _ => .tup [])
  fun (t, s, op, a, b, c, v) => [.row 159 (wkC (setRg t a v) s op a b c)]
def sOne : FSpec := spec Wk (fun (t, s, op, a, b, c) => [.c (.pro 18 (nthC (wkC t s op a b c)))]) (fun (_, _, _, _, b, _) => 0 ≤ b ∧ b < 8) fun (t, _, _, _, b, _) => .i (getR t b)
def sTwo : FSpec := spec Wk (fun (t, s, op, a, b, c) => [.c (.pro 18 (nthC (wkC t s op a b c)))]) (fun (_, _, _, _, _, c) => 0 ≤ c ∧ c < 8) fun (t, _, _, _, _, c) => .i (getR t c)
set_option maxHeartbeats 4000000 in
set_option maxRecDepth 100000 in
theorem set_ok : Meets Tryz.prog 151 sSet := by
  refine meets_lent 1 (gok_nil _) rfl [] (fn := Tryz.f151) rfl rfl rfl (by decide) (fun _ => rfl) (fun _ => rfl) (by decide) fun ⟨⟨pc, r0, r1, r2, r3, r4, r5, r6, r7, fs, st, fa, lf⟩, s, op, a, b, c, v⟩ hp => ?_
  have hp : 0 ≤ a ∧ a < 8 := hp
  repeat' (first | exact @id (emp _ = true) | (intro h; first | exact Bool.noConfusion h | (simp only [Qn] at h) | skip) | ((conv => whnf) <;> (first | exact trivial | apply Qa | apply And.intro | apply CutE.goWkV | apply CutE.goWk | apply Qb | apply Qc | apply Qd | apply Qe | apply Qf | apply Qg | apply Qh | apply Qi | exact QA | exact QP | refine QG ?_ | apply Qj | apply Qk | apply Ql | apply Qm | apply Qo | apply Qp | apply Qw | apply Qv | apply Qu | apply Qt | apply Qs | apply Qr | apply Qq | apply Qx | apply wrapS | apply Qy | (with_reducible exact lenNil) | apply Eq.refl)) | ((with_reducible first | apply Y1 | apply Y2 | apply Y3 | show blkEq _ _ _); conv => whnf))
  all_goals first
    | omega
    | exact hp.1
    | exact hp.2
    | rfl
    | (rw [callF_go hh h6] at h; exact h)
    | (rw [backF_go hh h6] at h; exact h)
    | assumption
    | (split <;> exact h)
    | trace_state
set_option maxHeartbeats 4000000 in
set_option maxRecDepth 100000 in
theorem one_ok : Meets Tryz.prog 152 sOne := by
  refine meets_plain (gok_nil _) rfl [] (fn := Tryz.f152) rfl rfl rfl (by decide) fun ⟨⟨pc, r0, r1, r2, r3, r4, r5, r6, r7, fs, st, fa, lf⟩, s, op, a, b, c⟩ hp => ?_
  have hp : 0 ≤ b ∧ b < 8 := hp
  repeat' (first | exact @id (emp _ = true) | (intro h; first | exact Bool.noConfusion h | (simp only [Qn] at h) | skip) | ((conv => whnf) <;> (first | exact trivial | apply Qa | apply And.intro | apply Qb | apply Qc | apply Qd | apply Qe | apply Qf | apply Qg | apply Qh | apply Qi | exact QA | exact QP | refine QG ?_ | apply Qj | apply Qk | apply Ql | apply Qm | apply Qo | apply Qp | apply Qw | apply Qv | apply Qu | apply Qt | apply Qs | apply Qr | apply Qq | apply Qx | apply wrapS | apply Qy | (with_reducible exact lenNil) | apply Eq.refl)) | ((with_reducible first | apply Y1 | apply Y2 | apply Y3 | show blkEq _ _ _); conv => whnf))
  all_goals first
    | omega
    | exact hp.1
    | exact hp.2
    | rfl
    | (rw [callF_go hh h6] at h; exact h)
    | (rw [backF_go hh h6] at h; exact h)
    | assumption
    | (split <;> exact h)
    | trace_state
set_option maxHeartbeats 4000000 in
set_option maxRecDepth 100000 in
theorem two_ok : Meets Tryz.prog 153 sTwo := by
  refine meets_plain (gok_nil _) rfl [] (fn := Tryz.f153) rfl rfl rfl (by decide) fun ⟨⟨pc, r0, r1, r2, r3, r4, r5, r6, r7, fs, st, fa, lf⟩, s, op, a, b, c⟩ hp => ?_
  have hp : 0 ≤ c ∧ c < 8 := hp
  repeat' (first | exact @id (emp _ = true) | (intro h; first | exact Bool.noConfusion h | (simp only [Qn] at h) | skip) | ((conv => whnf) <;> (first | exact trivial | apply Qa | apply And.intro | apply Qb | apply Qc | apply Qd | apply Qe | apply Qf | apply Qg | apply Qh | apply Qi | exact QA | exact QP | refine QG ?_ | apply Qj | apply Qk | apply Ql | apply Qm | apply Qo | apply Qp | apply Qw | apply Qv | apply Qu | apply Qt | apply Qs | apply Qr | apply Qq | apply Qx | apply wrapS | apply Qy | (with_reducible exact lenNil) | apply Eq.refl)) | ((with_reducible first | apply Y1 | apply Y2 | apply Y3 | show blkEq _ _ _); conv => whnf))
  all_goals first
    | omega
    | exact hp.1
    | exact hp.2
    | rfl
    | (rw [callF_go hh h6] at h; exact h)
    | (rw [backF_go hh h6] at h; exact h)
    | assumption
    | (split <;> exact h)
    | trace_state
def W1 : List (Nat × FSpec) := [(151, sSet), (152, sOne), (153, sTwo)]
theorem W1_ok : GOK Tryz.prog (tab W1) := gok_cons set_ok (gok_cons one_ok (gok_cons two_ok (gok_nil _)))
def s_load : FSpec := lentSpec 1 Wk (fun _ => [.c (.ptr 0 0)]) (fun (t, s, op, a, b, c) => [.row 159 (wkC t s op a b c)]) (fun (_, _, _, a, b, c) => 0 ≤ a ∧ a < 8) (fun _ => .tup [])
  fun (t, s, op, a, b, c) => [.row 159 (wkC (setRg t a b) s op a b c)]
set_option maxHeartbeats 4000000 in
set_option maxRecDepth 100000 in
theorem load_wk : Meets Tryz.prog 131 s_load := by
  refine meets_lent 1 W1_ok rfl [] (fn := Tryz.f131) rfl rfl rfl (by decide) (fun _ => rfl) (fun _ => rfl) (by decide) fun ⟨⟨pc, r0, r1, r2, r3, r4, r5, r6, r7, fs, st, fa, lf⟩, s, op, a, b, c⟩ hp => ?_
  have hp : 0 ≤ a ∧ a < 8 := hp
  repeat' (first | exact @id (emp _ = true) | (intro h; first | exact Bool.noConfusion h | (simp only [Qn] at h) | skip) | ((conv => whnf) <;> (first | exact trivial | apply Qa | apply And.intro | apply CutE.goWkV | apply CutE.goWk | apply Qb | apply Qc | apply Qd | apply Qe | apply Qf | apply Qg | apply Qh | apply Qi | exact QA | exact QP | refine QG ?_ | apply Qj | apply Qk | apply Ql | apply Qm | apply Qo | apply Qp | apply Qw | apply Qv | apply Qu | apply Qt | apply Qs | apply Qr | apply Qq | apply Qx | apply wrapS | apply Qy | (with_reducible exact lenNil) | apply Eq.refl)) | ((with_reducible first | apply Y1 | apply Y2 | apply Y3 | show blkEq _ _ _); conv => whnf))
  all_goals first | omega | exact hp.1 | exact hp.2 | exact hp.2.1 | exact hp.2.2.1 | exact hp.2.2.2.1 | exact hp.2.2.2.2 | rfl | trace_state
def s_move : FSpec := lentSpec 1 Wk (fun _ => [.c (.ptr 0 0)]) (fun (t, s, op, a, b, c) => [.row 159 (wkC t s op a b c)]) (fun (_, _, _, a, b, c) => 0 ≤ a ∧ a < 8 ∧ 0 ≤ b ∧ b < 8) (fun _ => .tup [])
  fun (t, s, op, a, b, c) => [.row 159 (wkC (setRg t a (getR t b)) s op a b c)]
set_option maxHeartbeats 4000000 in
set_option maxRecDepth 100000 in
theorem move_wk : Meets Tryz.prog 132 s_move := by
  refine meets_lent 1 W1_ok rfl [] (fn := Tryz.f132) rfl rfl rfl (by decide) (fun _ => rfl) (fun _ => rfl) (by decide) fun ⟨⟨pc, r0, r1, r2, r3, r4, r5, r6, r7, fs, st, fa, lf⟩, s, op, a, b, c⟩ hp => ?_
  have hp : 0 ≤ a ∧ a < 8 ∧ 0 ≤ b ∧ b < 8 := hp
  repeat' (first | exact @id (emp _ = true) | (intro h; first | exact Bool.noConfusion h | (simp only [Qn] at h) | skip) | ((conv => whnf) <;> (first | exact trivial | apply Qa | apply And.intro | apply CutE.goWkV | apply CutE.goWk | apply Qb | apply Qc | apply Qd | apply Qe | apply Qf | apply Qg | apply Qh | apply Qi | exact QA | exact QP | refine QG ?_ | apply Qj | apply Qk | apply Ql | apply Qm | apply Qo | apply Qp | apply Qw | apply Qv | apply Qu | apply Qt | apply Qs | apply Qr | apply Qq | apply Qx | apply wrapS | apply Qy | (with_reducible exact lenNil) | apply Eq.refl)) | ((with_reducible first | apply Y1 | apply Y2 | apply Y3 | show blkEq _ _ _); conv => whnf))
  all_goals first | omega | exact hp.1 | exact hp.2 | exact hp.2.1 | exact hp.2.2.1 | exact hp.2.2.2.1 | exact hp.2.2.2.2 | rfl | trace_state
def s_plus : FSpec := lentSpec 1 Wk (fun _ => [.c (.ptr 0 0)]) (fun (t, s, op, a, b, c) => [.row 159 (wkC t s op a b c)]) (fun (_, _, _, a, b, c) => 0 ≤ a ∧ a < 8 ∧ 0 ≤ b ∧ b < 8) (fun _ => .tup [])
  fun (t, s, op, a, b, c) => [.row 159 (wkC (setRg t a (IntKind.i64.wrap (getR t b + c))) s op a b c)]
set_option maxHeartbeats 4000000 in
set_option maxRecDepth 100000 in
theorem plus_wk : Meets Tryz.prog 133 s_plus := by
  refine meets_lent 1 W1_ok rfl [] (fn := Tryz.f133) rfl rfl rfl (by decide) (fun _ => rfl) (fun _ => rfl) (by decide) fun ⟨⟨pc, r0, r1, r2, r3, r4, r5, r6, r7, fs, st, fa, lf⟩, s, op, a, b, c⟩ hp => ?_
  have hp : 0 ≤ a ∧ a < 8 ∧ 0 ≤ b ∧ b < 8 := hp
  repeat' (first | exact @id (emp _ = true) | (intro h; first | exact Bool.noConfusion h | (simp only [Qn] at h) | skip) | ((conv => whnf) <;> (first | exact trivial | apply Qa | apply And.intro | apply CutE.goWkV | apply CutE.goWk | apply Qb | apply Qc | apply Qd | apply Qe | apply Qf | apply Qg | apply Qh | apply Qi | exact QA | exact QP | refine QG ?_ | apply Qj | apply Qk | apply Ql | apply Qm | apply Qo | apply Qp | apply Qw | apply Qv | apply Qu | apply Qt | apply Qs | apply Qr | apply Qq | apply Qx | apply wrapS | apply Qy | (with_reducible exact lenNil) | apply Eq.refl)) | ((with_reducible first | apply Y1 | apply Y2 | apply Y3 | show blkEq _ _ _); conv => whnf))
  all_goals first | omega | exact hp.1 | exact hp.2 | exact hp.2.1 | exact hp.2.2.1 | exact hp.2.2.2.1 | exact hp.2.2.2.2 | rfl | trace_state
def s_mask : FSpec := lentSpec 1 Wk (fun _ => [.c (.ptr 0 0)]) (fun (t, s, op, a, b, c) => [.row 159 (wkC t s op a b c)]) (fun (_, _, _, a, b, c) => 0 ≤ a ∧ a < 8 ∧ 0 ≤ b ∧ b < 8) (fun _ => .tup [])
  fun (t, s, op, a, b, c) => [.row 159 (wkC (setRg t a (Go.bits .and .i64 (getR t b) c)) s op a b c)]
set_option maxHeartbeats 4000000 in
set_option maxRecDepth 100000 in
theorem mask_wk : Meets Tryz.prog 134 s_mask := by
  refine meets_lent 1 W1_ok rfl [] (fn := Tryz.f134) rfl rfl rfl (by decide) (fun _ => rfl) (fun _ => rfl) (by decide) fun ⟨⟨pc, r0, r1, r2, r3, r4, r5, r6, r7, fs, st, fa, lf⟩, s, op, a, b, c⟩ hp => ?_
  have hp : 0 ≤ a ∧ a < 8 ∧ 0 ≤ b ∧ b < 8 := hp
  repeat' (first | exact @id (emp _ = true) | (intro h; first | exact Bool.noConfusion h | (simp only [Qn] at h) | skip) | ((conv => whnf) <;> (first | exact trivial | apply Qa | apply And.intro | apply CutE.goWkV | apply CutE.goWk | apply Qb | apply Qc | apply Qd | apply Qe | apply Qf | apply Qg | apply Qh | apply Qi | exact QA | exact QP | refine QG ?_ | apply Qj | apply Qk | apply Ql | apply Qm | apply Qo | apply Qp | apply Qw | apply Qv | apply Qu | apply Qt | apply Qs | apply Qr | apply Qq | apply Qx | apply wrapS | apply Qy | (with_reducible exact lenNil) | apply Eq.refl)) | ((with_reducible first | apply Y1 | apply Y2 | apply Y3 | show blkEq _ _ _); conv => whnf))
  all_goals first | omega | exact hp.1 | exact hp.2 | exact hp.2.1 | exact hp.2.2.1 | exact hp.2.2.2.1 | exact hp.2.2.2.2 | rfl | trace_state
def s_add : FSpec := lentSpec 1 Wk (fun _ => [.c (.ptr 0 0)]) (fun (t, s, op, a, b, c) => [.row 159 (wkC t s op a b c)]) (fun (_, _, _, a, b, c) => 0 ≤ a ∧ a < 8 ∧ 0 ≤ b ∧ b < 8 ∧ 0 ≤ c ∧ c < 8) (fun _ => .tup [])
  fun (t, s, op, a, b, c) => [.row 159 (wkC (setRg t a (IntKind.i64.wrap (getR t b + getR t c))) s op a b c)]
set_option maxHeartbeats 4000000 in
set_option maxRecDepth 100000 in
theorem add_wk : Meets Tryz.prog 135 s_add := by
  refine meets_lent 1 W1_ok rfl [] (fn := Tryz.f135) rfl rfl rfl (by decide) (fun _ => rfl) (fun _ => rfl) (by decide) fun ⟨⟨pc, r0, r1, r2, r3, r4, r5, r6, r7, fs, st, fa, lf⟩, s, op, a, b, c⟩ hp => ?_
  have hp : 0 ≤ a ∧ a < 8 ∧ 0 ≤ b ∧ b < 8 ∧ 0 ≤ c ∧ c < 8 := hp
  repeat' (first | exact @id (emp _ = true) | (intro h; first | exact Bool.noConfusion h | (simp only [Qn] at h) | skip) | ((conv => whnf) <;> (first | exact trivial | apply Qa | apply And.intro | apply CutE.goWkV | apply CutE.goWk | apply Qb | apply Qc | apply Qd | apply Qe | apply Qf | apply Qg | apply Qh | apply Qi | exact QA | exact QP | refine QG ?_ | apply Qj | apply Qk | apply Ql | apply Qm | apply Qo | apply Qp | apply Qw | apply Qv | apply Qu | apply Qt | apply Qs | apply Qr | apply Qq | apply Qx | apply wrapS | apply Qy | (with_reducible exact lenNil) | apply Eq.refl)) | ((with_reducible first | apply Y1 | apply Y2 | apply Y3 | show blkEq _ _ _); conv => whnf))
  all_goals first | omega | exact hp.1 | exact hp.2 | exact hp.2.1 | exact hp.2.2.1 | exact hp.2.2.2.1 | exact hp.2.2.2.2 | rfl | trace_state
def s_sub : FSpec := lentSpec 1 Wk (fun _ => [.c (.ptr 0 0)]) (fun (t, s, op, a, b, c) => [.row 159 (wkC t s op a b c)]) (fun (_, _, _, a, b, c) => 0 ≤ a ∧ a < 8 ∧ 0 ≤ b ∧ b < 8 ∧ 0 ≤ c ∧ c < 8) (fun _ => .tup [])
  fun (t, s, op, a, b, c) => [.row 159 (wkC (setRg t a (IntKind.i64.wrap (getR t b - getR t c))) s op a b c)]
set_option maxHeartbeats 4000000 in
set_option maxRecDepth 100000 in
theorem sub_wk : Meets Tryz.prog 136 s_sub := by
  refine meets_lent 1 W1_ok rfl [] (fn := Tryz.f136) rfl rfl rfl (by decide) (fun _ => rfl) (fun _ => rfl) (by decide) fun ⟨⟨pc, r0, r1, r2, r3, r4, r5, r6, r7, fs, st, fa, lf⟩, s, op, a, b, c⟩ hp => ?_
  have hp : 0 ≤ a ∧ a < 8 ∧ 0 ≤ b ∧ b < 8 ∧ 0 ≤ c ∧ c < 8 := hp
  repeat' (first | exact @id (emp _ = true) | (intro h; first | exact Bool.noConfusion h | (simp only [Qn] at h) | skip) | ((conv => whnf) <;> (first | exact trivial | apply Qa | apply And.intro | apply CutE.goWkV | apply CutE.goWk | apply Qb | apply Qc | apply Qd | apply Qe | apply Qf | apply Qg | apply Qh | apply Qi | exact QA | exact QP | refine QG ?_ | apply Qj | apply Qk | apply Ql | apply Qm | apply Qo | apply Qp | apply Qw | apply Qv | apply Qu | apply Qt | apply Qs | apply Qr | apply Qq | apply Qx | apply wrapS | apply Qy | (with_reducible exact lenNil) | apply Eq.refl)) | ((with_reducible first | apply Y1 | apply Y2 | apply Y3 | show blkEq _ _ _); conv => whnf))
  all_goals first | omega | exact hp.1 | exact hp.2 | exact hp.2.1 | exact hp.2.2.1 | exact hp.2.2.2.1 | exact hp.2.2.2.2 | rfl | trace_state
def s_and : FSpec := lentSpec 1 Wk (fun _ => [.c (.ptr 0 0)]) (fun (t, s, op, a, b, c) => [.row 159 (wkC t s op a b c)]) (fun (_, _, _, a, b, c) => 0 ≤ a ∧ a < 8 ∧ 0 ≤ b ∧ b < 8 ∧ 0 ≤ c ∧ c < 8) (fun _ => .tup [])
  fun (t, s, op, a, b, c) => [.row 159 (wkC (setRg t a (Go.bits .and .i64 (getR t b) (getR t c))) s op a b c)]
set_option maxHeartbeats 4000000 in
set_option maxRecDepth 100000 in
theorem and_wk : Meets Tryz.prog 137 s_and := by
  refine meets_lent 1 W1_ok rfl [] (fn := Tryz.f137) rfl rfl rfl (by decide) (fun _ => rfl) (fun _ => rfl) (by decide) fun ⟨⟨pc, r0, r1, r2, r3, r4, r5, r6, r7, fs, st, fa, lf⟩, s, op, a, b, c⟩ hp => ?_
  have hp : 0 ≤ a ∧ a < 8 ∧ 0 ≤ b ∧ b < 8 ∧ 0 ≤ c ∧ c < 8 := hp
  repeat' (first | exact @id (emp _ = true) | (intro h; first | exact Bool.noConfusion h | (simp only [Qn] at h) | skip) | ((conv => whnf) <;> (first | exact trivial | apply Qa | apply And.intro | apply CutE.goWkV | apply CutE.goWk | apply Qb | apply Qc | apply Qd | apply Qe | apply Qf | apply Qg | apply Qh | apply Qi | exact QA | exact QP | refine QG ?_ | apply Qj | apply Qk | apply Ql | apply Qm | apply Qo | apply Qp | apply Qw | apply Qv | apply Qu | apply Qt | apply Qs | apply Qr | apply Qq | apply Qx | apply wrapS | apply Qy | (with_reducible exact lenNil) | apply Eq.refl)) | ((with_reducible first | apply Y1 | apply Y2 | apply Y3 | show blkEq _ _ _); conv => whnf))
  all_goals first | omega | exact hp.1 | exact hp.2 | exact hp.2.1 | exact hp.2.2.1 | exact hp.2.2.2.1 | exact hp.2.2.2.2 | rfl | trace_state
def s_xor : FSpec := lentSpec 1 Wk (fun _ => [.c (.ptr 0 0)]) (fun (t, s, op, a, b, c) => [.row 159 (wkC t s op a b c)]) (fun (_, _, _, a, b, c) => 0 ≤ a ∧ a < 8 ∧ 0 ≤ b ∧ b < 8 ∧ 0 ≤ c ∧ c < 8) (fun _ => .tup [])
  fun (t, s, op, a, b, c) => [.row 159 (wkC (setRg t a (Go.bits .xor .i64 (getR t b) (getR t c))) s op a b c)]
set_option maxHeartbeats 4000000 in
set_option maxRecDepth 100000 in
theorem xor_wk : Meets Tryz.prog 138 s_xor := by
  refine meets_lent 1 W1_ok rfl [] (fn := Tryz.f138) rfl rfl rfl (by decide) (fun _ => rfl) (fun _ => rfl) (by decide) fun ⟨⟨pc, r0, r1, r2, r3, r4, r5, r6, r7, fs, st, fa, lf⟩, s, op, a, b, c⟩ hp => ?_
  have hp : 0 ≤ a ∧ a < 8 ∧ 0 ≤ b ∧ b < 8 ∧ 0 ≤ c ∧ c < 8 := hp
  repeat' (first | exact @id (emp _ = true) | (intro h; first | exact Bool.noConfusion h | (simp only [Qn] at h) | skip) | ((conv => whnf) <;> (first | exact trivial | apply Qa | apply And.intro | apply CutE.goWkV | apply CutE.goWk | apply Qb | apply Qc | apply Qd | apply Qe | apply Qf | apply Qg | apply Qh | apply Qi | exact QA | exact QP | refine QG ?_ | apply Qj | apply Qk | apply Ql | apply Qm | apply Qo | apply Qp | apply Qw | apply Qv | apply Qu | apply Qt | apply Qs | apply Qr | apply Qq | apply Qx | apply wrapS | apply Qy | (with_reducible exact lenNil) | apply Eq.refl)) | ((with_reducible first | apply Y1 | apply Y2 | apply Y3 | show blkEq _ _ _); conv => whnf))
  all_goals first | omega | exact hp.1 | exact hp.2 | exact hp.2.1 | exact hp.2.2.1 | exact hp.2.2.2.1 | exact hp.2.2.2.2 | rfl | trace_state
def s_less : FSpec := lentSpec 1 Wk (fun _ => [.c (.ptr 0 0)]) (fun (t, s, op, a, b, c) => [.row 159 (wkC t s op a b c)]) (fun (_, _, _, a, b, c) => 0 ≤ a ∧ a < 8 ∧ 0 ≤ b ∧ b < 8 ∧ 0 ≤ c ∧ c < 8) (fun _ => .tup [])
  fun (t, s, op, a, b, c) => [.row 159 (wkC (if getR t b < getR t c then setRg (setRg t a 0) a 1 else setRg t a 0) s op a b c)]
set_option maxHeartbeats 4000000 in
set_option maxRecDepth 100000 in
theorem less_wk : Meets Tryz.prog 139 s_less := by
  refine meets_lent 1 W1_ok rfl [] (fn := Tryz.f139) rfl rfl rfl (by decide) (fun _ => rfl) (fun _ => rfl) (by decide) fun ⟨⟨pc, r0, r1, r2, r3, r4, r5, r6, r7, fs, st, fa, lf⟩, s, op, a, b, c⟩ hp => ?_
  have hp : 0 ≤ a ∧ a < 8 ∧ 0 ≤ b ∧ b < 8 ∧ 0 ≤ c ∧ c < 8 := hp
  by_cases hc : getR ⟨pc, r0, r1, r2, r3, r4, r5, r6, r7, fs, st, fa, lf⟩ b < getR ⟨pc, r0, r1, r2, r3, r4, r5, r6, r7, fs, st, fa, lf⟩ c
  · show bodyK Tryz.prog _ _ _ _ s_less ⟨⟨pc, r0, r1, r2, r3, r4, r5, r6, r7, fs, st, fa, lf⟩, s, op, a, b, c⟩
    have e1 : s_less.post ⟨⟨pc, r0, r1, r2, r3, r4, r5, r6, r7, fs, st, fa, lf⟩, s, op, a, b, c⟩ = [(0, .row 159 (wkC (setRg (setRg ⟨pc, r0, r1, r2, r3, r4, r5, r6, r7, fs, st, fa, lf⟩ a 0) a 1) s op a b c))] := by
      show [(0, Blk.row _ (wkC (if _ then _ else _) _ _ _ _ _))] = _
      rw [if_pos hc]
    unfold bodyK retE
    rw [e1]
    repeat' (first | exact @id (emp _ = true) | (intro h; first | exact Bool.noConfusion h | (simp only [Qn] at h) | skip) | ((conv => whnf) <;> (first | exact trivial | apply Qa | apply And.intro | apply CutE.goWkV | apply CutE.goWk | apply Qb | apply Qc | apply Qd | apply Qe | apply Qf | apply Qg | apply Qh | apply Qi | exact QA | exact QP | refine QG ?_ | apply Qj | apply Qk | apply Ql | apply Qm | apply Qo | apply Qp | apply Qw | apply Qv | apply Qu | apply Qt | apply Qs | apply Qr | apply Qq | apply Qx | apply wrapS | apply Qy | (with_reducible exact lenNil) | apply Eq.refl)) | ((with_reducible first | apply Y1 | apply Y2 | apply Y3 | show blkEq _ _ _); conv => whnf))
    all_goals first | omega | exact hp.1 | exact hp.2 | exact hp.2.1 | exact hp.2.2.1 | exact hp.2.2.2.1 | exact hp.2.2.2.2 | (exfalso; exact absurd hc (by assumption)) | rfl | trace_state
  · show bodyK Tryz.prog _ _ _ _ s_less ⟨⟨pc, r0, r1, r2, r3, r4, r5, r6, r7, fs, st, fa, lf⟩, s, op, a, b, c⟩
    have e1 : s_less.post ⟨⟨pc, r0, r1, r2, r3, r4, r5, r6, r7, fs, st, fa, lf⟩, s, op, a, b, c⟩ = [(0, .row 159 (wkC (setRg ⟨pc, r0, r1, r2, r3, r4, r5, r6, r7, fs, st, fa, lf⟩ a 0) s op a b c))] := by
      show [(0, Blk.row _ (wkC (if _ then _ else _) _ _ _ _ _))] = _
      rw [if_neg hc]
    unfold bodyK retE
    rw [e1]
    repeat' (first | exact @id (emp _ = true) | (intro h; first | exact Bool.noConfusion h | (simp only [Qn] at h) | skip) | ((conv => whnf) <;> (first | exact trivial | apply Qa | apply And.intro | apply CutE.goWkV | apply CutE.goWk | apply Qb | apply Qc | apply Qd | apply Qe | apply Qf | apply Qg | apply Qh | apply Qi | exact QA | exact QP | refine QG ?_ | apply Qj | apply Qk | apply Ql | apply Qm | apply Qo | apply Qp | apply Qw | apply Qv | apply Qu | apply Qt | apply Qs | apply Qr | apply Qq | apply Qx | apply wrapS | apply Qy | (with_reducible exact lenNil) | apply Eq.refl)) | ((with_reducible first | apply Y1 | apply Y2 | apply Y3 | show blkEq _ _ _); conv => whnf))
    all_goals first | omega | exact hp.1 | exact hp.2 | exact hp.2.1 | exact hp.2.2.1 | exact hp.2.2.2.1 | exact hp.2.2.2.2 | (exfalso; exact hc (by assumption)) | rfl | trace_state
def s_jump : FSpec := lentSpec 1 Wk (fun _ => [.c (.ptr 0 0)]) (fun (t, s, op, a, b, c) => [.row 159 (wkC t s op a b c)]) (fun (_, _, _, a, b, c) => True) (fun _ => .tup [])
  fun (t, s, op, a, b, c) => [.row 159 (wkC (setPc t a) s op a b c)]
set_option maxHeartbeats 4000000 in
set_option maxRecDepth 100000 in
theorem jump_wk : Meets Tryz.prog 140 s_jump := by
  refine meets_lent 1 W1_ok rfl [] (fn := Tryz.f140) rfl rfl rfl (by decide) (fun _ => rfl) (fun _ => rfl) (by decide) fun ⟨⟨pc, r0, r1, r2, r3, r4, r5, r6, r7, fs, st, fa, lf⟩, s, op, a, b, c⟩ hp => ?_
  have hp : True := hp
  repeat' (first | exact @id (emp _ = true) | (intro h; first | exact Bool.noConfusion h | (simp only [Qn] at h) | skip) | ((conv => whnf) <;> (first | exact trivial | apply Qa | apply And.intro | apply CutE.goWkV | apply CutE.goWk | apply Qb | apply Qc | apply Qd | apply Qe | apply Qf | apply Qg | apply Qh | apply Qi | exact QA | exact QP | refine QG ?_ | apply Qj | apply Qk | apply Ql | apply Qm | apply Qo | apply Qp | apply Qw | apply Qv | apply Qu | apply Qt | apply Qs | apply Qr | apply Qq | apply Qx | apply wrapS | apply Qy | (with_reducible exact lenNil) | apply Eq.refl)) | ((with_reducible first | apply Y1 | apply Y2 | apply Y3 | show blkEq _ _ _); conv => whnf))
  all_goals first | omega | exact hp.1 | exact hp.2 | exact hp.2.1 | exact hp.2.2.1 | exact hp.2.2.2.1 | exact hp.2.2.2.2 | rfl | trace_state
def s_zero : FSpec := lentSpec 1 Wk (fun _ => [.c (.ptr 0 0)]) (fun (t, s, op, a, b, c) => [.row 159 (wkC t s op a b c)]) (fun (_, _, _, a, b, c) => 0 ≤ a ∧ a < 8) (fun _ => .tup [])
  fun (t, s, op, a, b, c) => [.row 159 (wkC (if getR t a = 0 then setPc t b else t) s op a b c)]
set_option maxHeartbeats 4000000 in
set_option maxRecDepth 100000 in
theorem zero_wk : Meets Tryz.prog 141 s_zero := by
  refine meets_lent 1 W1_ok rfl [] (fn := Tryz.f141) rfl rfl rfl (by decide) (fun _ => rfl) (fun _ => rfl) (by decide) fun ⟨⟨pc, r0, r1, r2, r3, r4, r5, r6, r7, fs, st, fa, lf⟩, s, op, a, b, c⟩ hp => ?_
  have hp : 0 ≤ a ∧ a < 8 := hp
  by_cases hc : getR ⟨pc, r0, r1, r2, r3, r4, r5, r6, r7, fs, st, fa, lf⟩ a = 0
  · show bodyK Tryz.prog _ _ _ _ s_zero ⟨⟨pc, r0, r1, r2, r3, r4, r5, r6, r7, fs, st, fa, lf⟩, s, op, a, b, c⟩
    have e1 : s_zero.post ⟨⟨pc, r0, r1, r2, r3, r4, r5, r6, r7, fs, st, fa, lf⟩, s, op, a, b, c⟩ = [(0, .row 159 (wkC (setPc ⟨pc, r0, r1, r2, r3, r4, r5, r6, r7, fs, st, fa, lf⟩ b) s op a b c))] := by
      show [(0, Blk.row _ (wkC (if _ then _ else _) _ _ _ _ _))] = _
      rw [if_pos hc]
    unfold bodyK retE
    rw [e1]
    repeat' (first | exact @id (emp _ = true) | (intro h; first | exact Bool.noConfusion h | (simp only [Qn] at h) | skip) | ((conv => whnf) <;> (first | exact trivial | apply Qa | apply And.intro | apply CutE.goWkV | apply CutE.goWk | apply Qb | apply Qc | apply Qd | apply Qe | apply Qf | apply Qg | apply Qh | apply Qi | exact QA | exact QP | refine QG ?_ | apply Qj | apply Qk | apply Ql | apply Qm | apply Qo | apply Qp | apply Qw | apply Qv | apply Qu | apply Qt | apply Qs | apply Qr | apply Qq | apply Qx | apply wrapS | apply Qy | (with_reducible exact lenNil) | apply Eq.refl)) | ((with_reducible first | apply Y1 | apply Y2 | apply Y3 | show blkEq _ _ _); conv => whnf))
    all_goals first | omega | exact hp.1 | exact hp.2 | exact hp.2.1 | exact hp.2.2.1 | exact hp.2.2.2.1 | exact hp.2.2.2.2 | (exfalso; exact absurd hc (by assumption)) | rfl | trace_state
  · show bodyK Tryz.prog _ _ _ _ s_zero ⟨⟨pc, r0, r1, r2, r3, r4, r5, r6, r7, fs, st, fa, lf⟩, s, op, a, b, c⟩
    have e1 : s_zero.post ⟨⟨pc, r0, r1, r2, r3, r4, r5, r6, r7, fs, st, fa, lf⟩, s, op, a, b, c⟩ = [(0, .row 159 (wkC (⟨pc, r0, r1, r2, r3, r4, r5, r6, r7, fs, st, fa, lf⟩) s op a b c))] := by
      show [(0, Blk.row _ (wkC (if _ then _ else _) _ _ _ _ _))] = _
      rw [if_neg hc]
    unfold bodyK retE
    rw [e1]
    repeat' (first | exact @id (emp _ = true) | (intro h; first | exact Bool.noConfusion h | (simp only [Qn] at h) | skip) | ((conv => whnf) <;> (first | exact trivial | apply Qa | apply And.intro | apply CutE.goWkV | apply CutE.goWk | apply Qb | apply Qc | apply Qd | apply Qe | apply Qf | apply Qg | apply Qh | apply Qi | exact QA | exact QP | refine QG ?_ | apply Qj | apply Qk | apply Ql | apply Qm | apply Qo | apply Qp | apply Qw | apply Qv | apply Qu | apply Qt | apply Qs | apply Qr | apply Qq | apply Qx | apply wrapS | apply Qy | (with_reducible exact lenNil) | apply Eq.refl)) | ((with_reducible first | apply Y1 | apply Y2 | apply Y3 | show blkEq _ _ _); conv => whnf))
    all_goals first | omega | exact hp.1 | exact hp.2 | exact hp.2.1 | exact hp.2.2.1 | exact hp.2.2.2.1 | exact hp.2.2.2.2 | (exfalso; exact hc (by assumption)) | rfl | trace_state
def s_some : FSpec := lentSpec 1 Wk (fun _ => [.c (.ptr 0 0)]) (fun (t, s, op, a, b, c) => [.row 159 (wkC t s op a b c)]) (fun (_, _, _, a, b, c) => 0 ≤ a ∧ a < 8) (fun _ => .tup [])
  fun (t, s, op, a, b, c) => [.row 159 (wkC (if getR t a = 0 then t else setPc t b) s op a b c)]
set_option maxHeartbeats 4000000 in
set_option maxRecDepth 100000 in
theorem some_wk : Meets Tryz.prog 142 s_some := by
  refine meets_lent 1 W1_ok rfl [] (fn := Tryz.f142) rfl rfl rfl (by decide) (fun _ => rfl) (fun _ => rfl) (by decide) fun ⟨⟨pc, r0, r1, r2, r3, r4, r5, r6, r7, fs, st, fa, lf⟩, s, op, a, b, c⟩ hp => ?_
  have hp : 0 ≤ a ∧ a < 8 := hp
  by_cases hc : getR ⟨pc, r0, r1, r2, r3, r4, r5, r6, r7, fs, st, fa, lf⟩ a = 0
  · show bodyK Tryz.prog _ _ _ _ s_some ⟨⟨pc, r0, r1, r2, r3, r4, r5, r6, r7, fs, st, fa, lf⟩, s, op, a, b, c⟩
    have e1 : s_some.post ⟨⟨pc, r0, r1, r2, r3, r4, r5, r6, r7, fs, st, fa, lf⟩, s, op, a, b, c⟩ = [(0, .row 159 (wkC (⟨pc, r0, r1, r2, r3, r4, r5, r6, r7, fs, st, fa, lf⟩) s op a b c))] := by
      show [(0, Blk.row _ (wkC (if _ then _ else _) _ _ _ _ _))] = _
      rw [if_pos hc]
    unfold bodyK retE
    rw [e1]
    repeat' (first | exact @id (emp _ = true) | (intro h; first | exact Bool.noConfusion h | (simp only [Qn] at h) | skip) | ((conv => whnf) <;> (first | exact trivial | apply Qa | apply And.intro | apply CutE.goWkV | apply CutE.goWk | apply Qb | apply Qc | apply Qd | apply Qe | apply Qf | apply Qg | apply Qh | apply Qi | exact QA | exact QP | refine QG ?_ | apply Qj | apply Qk | apply Ql | apply Qm | apply Qo | apply Qp | apply Qw | apply Qv | apply Qu | apply Qt | apply Qs | apply Qr | apply Qq | apply Qx | apply wrapS | apply Qy | (with_reducible exact lenNil) | apply Eq.refl)) | ((with_reducible first | apply Y1 | apply Y2 | apply Y3 | show blkEq _ _ _); conv => whnf))
    all_goals first | omega | exact hp.1 | exact hp.2 | exact hp.2.1 | exact hp.2.2.1 | exact hp.2.2.2.1 | exact hp.2.2.2.2 | (exfalso; exact absurd hc (by assumption)) | rfl | trace_state
  · show bodyK Tryz.prog _ _ _ _ s_some ⟨⟨pc, r0, r1, r2, r3, r4, r5, r6, r7, fs, st, fa, lf⟩, s, op, a, b, c⟩
    have e1 : s_some.post ⟨⟨pc, r0, r1, r2, r3, r4, r5, r6, r7, fs, st, fa, lf⟩, s, op, a, b, c⟩ = [(0, .row 159 (wkC (setPc ⟨pc, r0, r1, r2, r3, r4, r5, r6, r7, fs, st, fa, lf⟩ b) s op a b c))] := by
      show [(0, Blk.row _ (wkC (if _ then _ else _) _ _ _ _ _))] = _
      rw [if_neg hc]
    unfold bodyK retE
    rw [e1]
    repeat' (first | exact @id (emp _ = true) | (intro h; first | exact Bool.noConfusion h | (simp only [Qn] at h) | skip) | ((conv => whnf) <;> (first | exact trivial | apply Qa | apply And.intro | apply CutE.goWkV | apply CutE.goWk | apply Qb | apply Qc | apply Qd | apply Qe | apply Qf | apply Qg | apply Qh | apply Qi | exact QA | exact QP | refine QG ?_ | apply Qj | apply Qk | apply Ql | apply Qm | apply Qo | apply Qp | apply Qw | apply Qv | apply Qu | apply Qt | apply Qs | apply Qr | apply Qq | apply Qx | apply wrapS | apply Qy | (with_reducible exact lenNil) | apply Eq.refl)) | ((with_reducible first | apply Y1 | apply Y2 | apply Y3 | show blkEq _ _ _); conv => whnf))
    all_goals first | omega | exact hp.1 | exact hp.2 | exact hp.2.1 | exact hp.2.2.1 | exact hp.2.2.2.1 | exact hp.2.2.2.2 | (exfalso; exact hc (by assumption)) | rfl | trace_state
def s_who : FSpec := lentSpec 1 Wk (fun _ => [.c (.ptr 0 0)]) (fun (t, s, op, a, b, c) => [.row 159 (wkC t s op a b c)]) (fun (_, _, _, a, b, c) => 0 ≤ a ∧ a < 8) (fun _ => .tup [])
  fun (t, s, op, a, b, c) => [.row 159 (wkC (setRg t a s) s op a b c)]
set_option maxHeartbeats 4000000 in
set_option maxRecDepth 100000 in
theorem who_wk : Meets Tryz.prog 143 s_who := by
  refine meets_lent 1 W1_ok rfl [] (fn := Tryz.f143) rfl rfl rfl (by decide) (fun _ => rfl) (fun _ => rfl) (by decide) fun ⟨⟨pc, r0, r1, r2, r3, r4, r5, r6, r7, fs, st, fa, lf⟩, s, op, a, b, c⟩ hp => ?_
  have hp : 0 ≤ a ∧ a < 8 := hp
  repeat' (first | exact @id (emp _ = true) | (intro h; first | exact Bool.noConfusion h | (simp only [Qn] at h) | skip) | ((conv => whnf) <;> (first | exact trivial | apply Qa | apply And.intro | apply CutE.goWkV | apply CutE.goWk | apply Qb | apply Qc | apply Qd | apply Qe | apply Qf | apply Qg | apply Qh | apply Qi | exact QA | exact QP | refine QG ?_ | apply Qj | apply Qk | apply Ql | apply Qm | apply Qo | apply Qp | apply Qw | apply Qv | apply Qu | apply Qt | apply Qs | apply Qr | apply Qq | apply Qx | apply wrapS | apply Qy | (with_reducible exact lenNil) | apply Eq.refl)) | ((with_reducible first | apply Y1 | apply Y2 | apply Y3 | show blkEq _ _ _); conv => whnf))
  all_goals first | omega | exact hp.1 | exact hp.2 | exact hp.2.1 | exact hp.2.2.1 | exact hp.2.2.2.1 | exact hp.2.2.2.2 | rfl | trace_state
end Go.Eng
namespace Go.Eng
open Go Go.Proofs
def inF (n lo hi : Int) : Bool := decide (lo ≤ n ∧ n ≤ hi)
def sIn : FSpec := spec (Int × Int × Int) (fun (n, lo, hi) => [.i n, .i lo, .i hi]) (fun _ => True) fun (n, lo, hi) => .b (inF n lo hi)
set_option maxHeartbeats 4000000 in
set_option maxRecDepth 100000 in
theorem in_ok : Meets Tryz.prog 117 sIn := by
  refine meets_plain (gok_nil _) rfl [] (fn := Tryz.f117) rfl rfl rfl (by decide) fun ⟨n, lo, hi⟩ _ => ?_
  repeat' (first | exact @id (emp _ = true) | (intro h; first | exact Bool.noConfusion h | (simp only [Qn] at h) | skip) | ((conv => whnf) <;> (first | exact trivial | apply Qa | apply And.intro | apply Qb | apply Qc | apply Qd | apply Qe | apply Qf | apply Qg | apply Qh | apply Qi | exact QA | exact QP | refine QG ?_ | apply Qj | apply Qk | apply Ql | apply Qm | apply Qo | apply Qp | apply Qw | apply Qv | apply Qu | apply Qt | apply Qs | apply Qr | apply Qq | apply Qx | apply wrapS | apply Qy | (with_reducible exact lenNil) | apply Eq.refl)) | ((with_reducible first | apply Y1 | apply Y2 | apply Y3 | show blkEq _ _ _); conv => whnf))
  all_goals first
    | (show inF n lo hi = _; simp only [inF]; (first | (apply decide_eq_false; omega) | (apply decide_eq_true; omega) | (congr 1; apply propext; omega)))
    | (rw [callF_go hh h6] at h; exact h)
    | (rw [backF_go hh h6] at h; exact h)
    | assumption
    | (split <;> exact h)
    | trace_state
def readyF (t : Th) (s : Int) : Int := if thR t = true ∧ inF s 0 7 = true then (if t.st = 0 ∧ t.lf.length = 0 then 0 else 9) else 1
def sReady : FSpec := spec (Th × Int) (fun (t, s) => [.agg (thC t), .i s]) (fun (t, _) => SmallT t) fun (t, s) => .i (readyF t s)
def L1 : List (Nat × FSpec) := (117, sIn) :: F6
theorem L1_ok : GOK Tryz.prog (tab L1) := gok_cons in_ok F6_ok
set_option maxHeartbeats 4000000 in
set_option maxRecDepth 100000 in
theorem ready_ok : Meets Tryz.prog 115 sReady := by
  refine meets_plain L1_ok rfl [] (fn := Tryz.f115) rfl rfl rfl (by decide) fun ⟨⟨pc, r0, r1, r2, r3, r4, r5, r6, r7, fs, st, fa, lf⟩, s⟩ hS => ?_
  repeat' (first | exact @id (emp _ = true) | (intro h; first | exact Bool.noConfusion h | (simp only [Qn] at h) | skip) | ((conv => whnf) <;> (first | exact trivial | apply Qa | apply And.intro | apply CutE.goTh | apply Qb | apply Qc | apply Qd | apply Qe | apply Qf | apply Qg | apply Qh | apply Qi | exact QA | exact QP | refine QG ?_ | apply Qj | apply Qk | apply Ql | apply Qm | apply Qo | apply Qp | apply Qw | apply Qv | apply Qu | apply Qt | apply Qs | apply Qr | apply Qq | apply Qx | apply wrapS | apply Qy | (with_reducible exact lenNil) | apply Eq.refl)) | ((with_reducible first | apply Y1 | apply Y2 | apply Y3 | show blkEq _ _ _); conv => whnf))
  all_goals try simp only at *
  all_goals first
    | exact hS.1
    | exact hS.2
    | (rw [readyF, if_neg (fun hh => Bool.noConfusion (hh.1.symm.trans h))]; done)
    | (rw [readyF, if_neg (fun hh => Bool.noConfusion (hh.2.symm.trans h))]; done)
    | (rw [readyF, if_pos ⟨by assumption, by assumption⟩, if_neg (by show ¬ (st = 0 ∧ lf.length = 0); omega)]; done)
    | (rw [readyF, if_pos ⟨by assumption, by assumption⟩, if_pos (by show st = 0 ∧ lf.length = 0; omega)]; done)
    | (rw [callF_go hh h6] at h; exact h)
    | (rw [backF_go hh h6] at h; exact h)
    | assumption
    | (split <;> exact h)
    | trace_state
end Go.Eng
namespace Go.Eng
open Go Go.Proofs
def locF (op : Int) : Bool := decide (1 ≤ op ∧ op ≤ 15)
def regsF (op : Int) : Int := if op = 10 ∨ op = 13 ∨ op = 14 then 0 else if op = 1 ∨ op = 11 ∨ op = 12 ∨ op = 15 then 1 else if op = 2 ∨ op = 3 ∨ op = 4 then 2 else 3
def jumpF (op : Int) : Int := if op = 10 ∨ op = 13 then 0 else if op = 11 ∨ op = 12 then 1 else -1
theorem inF_f {n lo hi : Int} (h : ¬ (lo ≤ n ∧ n ≤ hi)) : inF n lo hi = false := decide_eq_false h
def sLoc : FSpec := spec Int (fun op => [.i op]) (fun _ => True) fun op => .b (locF op)
set_option maxHeartbeats 4000000 in
set_option maxRecDepth 100000 in
theorem loc_ok : Meets Tryz.prog 58 sLoc := by
  refine meets_plain (gok_nil _) rfl [] (fn := Tryz.f58) rfl rfl rfl (by decide) fun op _ => ?_
  repeat' (first | exact @id (emp _ = true) | (intro h; first | exact Bool.noConfusion h | (simp only [Qn] at h) | skip) | ((conv => whnf) <;> (first | exact trivial | apply Qa | apply And.intro | apply Qb | apply Qc | apply Qd | apply Qe | apply Qf | apply Qg | apply Qh | apply Qi | exact QA | exact QP | refine QG ?_ | apply Qj | apply Qk | apply Ql | apply Qm | apply Qo | apply Qp | apply Qw | apply Qv | apply Qu | apply Qt | apply Qs | apply Qr | apply Qq | apply Qx | apply wrapS | apply Qy | (with_reducible exact lenNil) | apply Eq.refl)) | ((with_reducible first | apply Y1 | apply Y2 | apply Y3 | show blkEq _ _ _); conv => whnf))
  all_goals first
    | (show locF op = _; simp only [locF]; (first | (apply decide_eq_false; omega) | (apply decide_eq_true; omega) | (congr 1; apply propext; omega)))
    | (rw [callF_go hh h6] at h; exact h)
    | (rw [backF_go hh h6] at h; exact h)
    | assumption
    | (split <;> exact h)
    | trace_state
/-- May an instruction be? -/
def mayI (op a b c : Int) : Bool := ((List.range (regsF op).toNat).all fun k => inF ([a, b, c].getD k 0) 0 7) && (decide (jumpF op < 0) || inF ([a, b, c].getD (jumpF op).toNat 0) 0 1000)
end Go.Eng
