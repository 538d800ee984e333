/- A part of the walks, and of the machine that proves them (TsA). -/
import Derived.Test.YtgahcoccodhkmaaDoorBuA
import Derived.Test.YtgahcoccodhkmaaDoorMeB
set_option linter.unusedVariables false
set_option linter.unusedSimpArgs false
namespace Go.Eng
open Go Go.Proofs
abbrev bufE (b : List Put) : List Cell := [putsS b]
abbrev bufsS (l : List (List Put)) : Cell := slC 1 bufE l
abbrev Tso := List Int × List Int × Int × List (List Put)
def tsoC (ws ts : List Int) (d : Int) (l : List (List Put)) : List Cell := [intsS ws, intsS ts, .i d, bufsS l]
def rTso (t : Tso) : Sv := .agg (tsoC t.1 t.2.1 t.2.2.1 t.2.2.2)
def tso0 : Tso := ([], [], 0, [])
def Small (l : List (List Put)) : Prop := l.length ≤ 1000000 ∧ ∀ i, (l.getD i default).length ≤ 1000000
def badP (n : Nat) (p : Put) : Bool := decide (p.1 < 0 ∨ (n : Int) ≤ p.1)
def idxR (n : Nat) : List Put → Nat → Int
  | [], _ => -1
  | p :: r, k => if badP n p = true then k else idxR n r (k + 1)
theorem idxR_any (n : Nat) : ∀ (b : List Put) (k : Nat), decide (0 ≤ idxR n b k) = b.any (badP n)
  | [], _ => rfl
  | p :: r, k => by
    rw [idxR, List.any_cons]
    by_cases h : badP n p = true
    · rw [if_pos h, h]; simp
    · have h' : badP n p = false := by simpa using h
      rw [if_neg h, h', idxR_any n r (k + 1)]; rfl
def sizesF (n d : Int) : Bool := decide (1 ≤ n ∧ n ≤ 8 ∧ 0 ≤ d ∧ d ≤ 8)
def okB (n : Nat) (d : Int) (b : List Put) : Bool := decide ((b.length : Int) ≤ d) && !b.any (badP n)
def tsoR (ws ts : List Int) (d : Int) (l : List (List Put)) : Bool := memR ws ts && sizesF l.length d && (List.range l.length).all fun i => okB ws.length d (l.getD i default)
theorem tsoR_iff {ws ts : List Int} {d : Int} {l : List (List Put)} : tsoR ws ts d l = true ↔ memR ws ts = true ∧ sizesF l.length d = true ∧ ∀ i, i < l.length → okB ws.length d (l.getD i default) = true := by
  simp only [tsoR, Bool.and_eq_true, List.all_eq_true, List.mem_range]
  exact ⟨fun ⟨⟨a, b⟩, c⟩ => ⟨a, b, c⟩, fun ⟨a, b, c⟩ => ⟨⟨a, b⟩, c⟩⟩
theorem tsoR_no {ws ts : List Int} {d : Int} {l : List (List Put)} (h : ¬ (memR ws ts = true ∧ sizesF l.length d = true ∧ ∀ i, i < l.length → okB ws.length d (l.getD i default) = true)) : tsoR ws ts d l = false := by
  cases e : tsoR ws ts d l with
  | false => rfl
  | true => exact absurd (tsoR_iff.1 e) h
def sSizes : FSpec := spec (Int × Int) (fun (n, d) => [.i n, .i d]) (fun _ => True) fun (n, d) => .b (sizesF n d)
set_option maxHeartbeats 4000000 in
set_option maxRecDepth 100000 in
theorem sizes_ok : Meets Tryd.prog 36 sSizes := by
  refine meets_plain (gok_nil _) rfl [] (fn := Tryd.f36) rfl rfl rfl (by decide) fun ⟨n, d⟩ _ => ?_
  repeat' (first | exact @id (emp _ = true) | (intro h; first | exact Bool.noConfusion h | (simp only [Qn] at h) | skip) | ((conv => whnf) <;> (first | exact trivial | apply Qa | apply And.intro | apply Qb | apply Qc | apply Qd | apply Qe | apply Qf | apply Qg | apply Qh | apply Qi | exact QA | exact QP | refine QG ?_ | apply Qj | apply Qk | apply Ql | apply Qm | apply Qo | apply Qp | apply Qw | apply Qv | apply Qu | apply Qt | apply Qs | apply Qr | apply Qq | apply Qx | apply wrapS | apply Qy | (with_reducible exact lenNil) | apply Eq.refl)) | ((with_reducible first | apply Y1 | apply Y2 | apply Y3 | show blkEq _ _ _); conv => whnf))
  all_goals first
    | (show sizesF n d = _; simp only [sizesF]; (first | (apply decide_eq_false; omega) | (apply decide_eq_true; omega) | (congr 1; apply propext; omega)))
    | trace_state
def sBadP : FSpec := lentSpec 1 (Put × List Int × List Int × Int × List (List Put)) (fun (p, _) => [.agg (encP p), .c (.ptr 0 0)]) (fun (_, ws, ts, d, l) => [.row 50 (tsoC ws ts d l)]) (fun _ => True) (fun (p, ws, _) => .b (badP ws.length p)) fun (_, ws, ts, d, l) => [.row 50 (tsoC ws ts d l)]
set_option maxHeartbeats 4000000 in
set_option maxRecDepth 100000 in
theorem badP_ok : Meets Tryd.prog 77 sBadP := by
  refine meets_lent 1 (gok_nil _) rfl [] (fn := Tryd.f77) rfl rfl rfl (by decide) (fun _ => rfl) (fun _ => rfl) (by decide) fun ⟨p, ws, ts, d, l⟩ _ => ?_
  repeat' (first | exact @id (emp _ = true) | (intro h; first | exact Bool.noConfusion h | (simp only [Qn] at h) | skip) | ((conv => whnf) <;> (first | exact trivial | apply Qa | apply And.intro | apply Qb | apply Qc | apply Qd | apply Qe | apply Qf | apply Qg | apply Qh | apply Qi | exact QA | exact QP | refine QG ?_ | apply Qj | apply Qk | apply Ql | apply Qm | apply Qo | apply Qp | apply Qw | apply Qv | apply Qu | apply Qt | apply Qs | apply Qr | apply Qq | apply Qx | apply wrapS | apply Qy | (with_reducible exact lenNil) | apply Eq.refl)) | ((with_reducible first | apply Y1 | apply Y2 | apply Y3 | show blkEq _ _ _); conv => whnf))
  all_goals first
    | (show badP _ _ = _; simp only [badP]; (first | (apply decide_eq_false; omega) | (apply decide_eq_true; omega) | (congr 1; apply propext; omega)))
    | trace_state
def T1 : List (Nat × FSpec) := [(77, sBadP)]
theorem T1_ok : GOK Tryd.prog (tab T1) := gok_cons badP_ok (gok_nil _)
def sIdx : FSpec := lentSpec 1 (List Put × List Int × List Int × Int × List (List Put)) (fun (b, _) => [.c (putsS b), .c (.fn 77 [.ptr 0 0])]) (fun (_, ws, ts, d, l) => [.row 50 (tsoC ws ts d l)]) (fun (b, _) => b.length ≤ 1000000)
  (fun (b, ws, _) => .i (idxR ws.length b 0)) fun (_, ws, ts, d, l) => [.row 50 (tsoC ws ts d l)]
set_option maxHeartbeats 4000000 in
set_option maxRecDepth 100000 in
theorem idx_ok : Meets Tryd.prog 91 sIdx := by
  refine meets_lent 1 T1_ok rfl [] (fn := Tryd.f91) rfl rfl rfl (by decide) (fun _ => rfl) (fun _ => rfl) (by decide) fun ⟨b, ws, ts, d, l⟩ hb => ?_
  have hb : b.length ≤ 1000000 := hb
  repeat' (first | exact @id (emp _ = true) | (intro h; first | exact Bool.noConfusion h | (simp only [Qn] at h) | skip) | ((conv => whnf) <;> (first | exact trivial | apply Qa | apply And.intro | apply Qb | apply Qc | apply Qd | apply Qe | apply Qf | apply Qg | apply Qh | apply Qi | exact QA | exact QP | refine QG ?_ | apply Qj | apply Qk | apply Ql | apply Qm | apply Qo | apply Qp | apply Qw | apply Qv | apply Qu | apply Qt | apply Qs | apply Qr | apply Qq | apply Qx | apply wrapS | apply Qy | (with_reducible exact lenNil) | apply Eq.refl)) | ((with_reducible first | apply Y1 | apply Y2 | apply Y3 | show blkEq _ _ _); conv => whnf))
  apply LoopP.up (G := Nat) (fun k => k ≤ b.length ∧ idxR ws.length b 0 = idxR ws.length (b.drop k) k) [0, 1, 7, 8] (fun k => [(8, .i k)]) (fun _ => []) 1 (fun k => b.length - k)
  apply And.intro
  · refine CutE.at 0 ?_
    repeat' (first | exact @id (emp _ = true) | (intro h; first | exact Bool.noConfusion h | (simp only [Qn] at h) | skip) | ((conv => whnf) <;> (first | exact trivial | apply Qa | apply And.intro | apply Qb | apply Qc | apply Qd | apply Qe | apply Qf | apply Qg | apply Qh | apply Qi | exact QA | exact QP | refine QG ?_ | apply Qj | apply Qk | apply Ql | apply Qm | apply Qo | apply Qp | apply Qw | apply Qv | apply Qu | apply Qt | apply Qs | apply Qr | apply Qq | apply Qx | apply wrapS | apply Qy | (with_reducible exact lenNil) | apply Eq.refl)) | ((with_reducible first | apply Y1 | apply Y2 | apply Y3 | show blkEq _ _ _); conv => whnf))
    all_goals try simp only [Int.toNat_natCast, Int.toNat_zero, ge_iff_le, gt_iff_lt, Int.ofNat_le, Int.ofNat_lt, Int.ofNat_inj] at *
    all_goals first
      | omega
      | (dsimp only; omega)
      | assumption
      | exact Up.zero _
      | (show ((8 : Nat) : Int) * _ ≤ _; omega)
      | (show _ * (8 : Nat) ≤ _; omega)
      | (show _ * (16 : Nat) ≤ _; omega)
      | (show _ * (24 : Nat) ≤ _; omega)
      | trace_state
  · intro k ⟨hk, hI⟩
    have hs : k < b.length → idxR ws.length (b.drop k) k = if badP ws.length (b.getD k default) = true then (k : Int) else idxR ws.length (b.drop (k + 1)) (k + 1) := fun h => by rw [drop_getD (d := default) h, idxR]
    repeat' (first | exact @id (emp _ = true) | (intro h; first | exact Bool.noConfusion h | (simp only [Qn] at h) | skip) | ((conv => whnf) <;> (first | exact trivial | apply Qa | apply And.intro | refine CutE.at (A := Nat) (k + 1) ?_ | apply Qb | apply Qc | apply Qd | apply Qe | apply Qf | apply Qg | apply Qh | apply Qi | exact QA | exact QP | refine QG ?_ | apply Qj | apply Qk | apply Ql | apply Qm | apply Qo | apply Qp | apply Qw | apply Qv | apply Qu | apply Qt | apply Qs | apply Qr | apply Qq | apply Qx | apply wrapS | apply Qy | (with_reducible exact lenNil) | apply Eq.refl)) | ((with_reducible first | apply Y1 | apply Y2 | apply Y3 | show blkEq _ _ _); conv => whnf))
    all_goals try simp only [Int.toNat_natCast] at *
    all_goals first
      | omega
      | (rw [hI, hs (by omega), if_pos (by assumption)])
      | (rw [hI, hs (by omega), h]; rfl)
      | (rw [hI, List.drop_eq_nil_of_le (by omega)]; rfl)
      | trace_state
def sCont : FSpec := lentSpec 1 (List Put × List Int × List Int × Int × List (List Put)) (fun (b, _) => [.c (putsS b), .c (.fn 77 [.ptr 0 0])]) (fun (_, ws, ts, d, l) => [.row 50 (tsoC ws ts d l)]) (fun (b, _) => b.length ≤ 1000000)
  (fun (b, ws, _) => .b (b.any (badP ws.length))) fun (_, ws, ts, d, l) => [.row 50 (tsoC ws ts d l)]
def T2 : List (Nat × FSpec) := (91, sIdx) :: T1
theorem T2_ok : GOK Tryd.prog (tab T2) := gok_cons idx_ok T1_ok
set_option maxHeartbeats 4000000 in
set_option maxRecDepth 100000 in
theorem cont_ok : Meets Tryd.prog 76 sCont := by
  refine meets_lent 1 T2_ok rfl [] (fn := Tryd.f76) rfl rfl rfl (by decide) (fun _ => rfl) (fun _ => rfl) (by decide) fun ⟨b, ws, ts, d, l⟩ hb => ?_
  have hb : b.length ≤ 1000000 := hb
  have hi := idxR_any ws.length b 0
  repeat' (first | exact @id (emp _ = true) | (intro h; first | exact Bool.noConfusion h | (simp only [Qn] at h) | skip) | ((conv => whnf) <;> (first | exact trivial | apply Qa | apply And.intro | apply Qb | apply Qc | apply Qd | apply Qe | apply Qf | apply Qg | apply Qh | apply Qi | exact QA | exact QP | refine QG ?_ | apply Qj | apply Qk | apply Ql | apply Qm | apply Qo | apply Qp | apply Qw | apply Qv | apply Qu | apply Qt | apply Qs | apply Qr | apply Qq | apply Qx | apply wrapS | apply Qy | (with_reducible exact lenNil) | apply Eq.refl)) | ((with_reducible first | apply Y1 | apply Y2 | apply Y3 | show blkEq _ _ _); conv => whnf))
  all_goals first
    | exact hb
    | exact hi.symm
    | trace_state
def T3 : List (Nat × FSpec) := (76, sCont) :: (36, sSizes) :: M4
theorem T3_ok : GOK Tryd.prog (tab T3) := gok_cons cont_ok (gok_cons sizes_ok M4_ok)
def sTsoRight : FSpec := spec Tso (fun (ws, ts, d, l) => [.agg (tsoC ws ts d l)]) (fun (_, _, _, l) => Small l) fun (ws, ts, d, l) => .b (tsoR ws ts d l)
set_option maxHeartbeats 4000000 in
set_option maxRecDepth 100000 in
theorem tsoRight_ok : Meets Tryd.prog 55 sTsoRight := by
  refine meets_plain T3_ok rfl [] (fn := Tryd.f55) rfl rfl rfl (by decide) fun ⟨ws, ts, d, l⟩ ⟨hl, hlb⟩ => ?_
  repeat' (first | exact @id (emp _ = true) | (intro h; first | exact Bool.noConfusion h | (simp only [Qn] at h) | skip) | ((conv => whnf) <;> (first | exact trivial | apply Qa | apply And.intro | apply Qb | apply Qc | apply Qd | apply Qe | apply Qf | apply Qg | apply Qh | apply Qi | exact QA | exact QP | refine QG ?_ | apply Qj | apply Qk | apply Ql | apply Qm | apply Qo | apply Qp | apply Qw | apply Qv | apply Qu | apply Qt | apply Qs | apply Qr | apply Qq | apply Qx | apply wrapS | apply Qy | (with_reducible exact lenNil) | apply Eq.refl)) | ((with_reducible first | apply Y1 | apply Y2 | apply Y3 | show blkEq _ _ _); conv => whnf))
  · exact (tsoR_no fun h => Bool.noConfusion (h.1.symm.trans (by assumption)))
  · exact (tsoR_no fun h => Bool.noConfusion (h.2.1.symm.trans (by assumption)))
  have hm : memR ws ts = true := by assumption
  have hz : sizesF l.length d = true := by assumption
  apply LoopP.up (G := Nat) (fun k => k ≤ l.length ∧ Up k fun i => okB ws.length d (l.getD i default) = true) [1, 19, 20, 21] (fun k => [(21, .i k)]) (fun _ => []) 1 (fun k => l.length - k)
  apply And.intro
  · refine CutE.at 0 ?_
    repeat' (first | exact @id (emp _ = true) | (intro h; first | exact Bool.noConfusion h | (simp only [Qn] at h) | skip) | ((conv => whnf) <;> (first | exact trivial | apply Qa | apply And.intro | apply Qb | apply Qc | apply Qd | apply Qe | apply Qf | apply Qg | apply Qh | apply Qi | exact QA | exact QP | refine QG ?_ | apply Qj | apply Qk | apply Ql | apply Qm | apply Qo | apply Qp | apply Qw | apply Qv | apply Qu | apply Qt | apply Qs | apply Qr | apply Qq | apply Qx | apply wrapS | apply Qy | (with_reducible exact lenNil) | apply Eq.refl)) | ((with_reducible first | apply Y1 | apply Y2 | apply Y3 | show blkEq _ _ _); conv => whnf))
    all_goals try simp only [Int.toNat_natCast, Int.toNat_zero, ge_iff_le, gt_iff_lt, Int.ofNat_le, Int.ofNat_lt, Int.ofNat_inj] at *
    all_goals first
      | omega
      | (dsimp only; omega)
      | assumption
      | exact Up.zero _
      | (show ((8 : Nat) : Int) * _ ≤ _; omega)
      | (show _ * (8 : Nat) ≤ _; omega)
      | (show _ * (16 : Nat) ≤ _; omega)
      | (show _ * (24 : Nat) ≤ _; omega)
      | trace_state
  · intro k ⟨hk, hu⟩
    have hb := hlb k
    have hF : k < l.length → okB ws.length d (l.getD k default) = false → tsoR ws ts d l = false := fun h1 h2 => tsoR_no fun h => Bool.noConfusion ((h.2.2 k h1).symm.trans h2)
    repeat' (first | exact @id (emp _ = true) | (intro h; first | exact Bool.noConfusion h | (simp only [Qn] at h) | skip) | ((conv => whnf) <;> (first | exact trivial | apply Qa | apply And.intro | refine CutE.at (A := Nat) (k + 1) ?_ | refine CutE.at (l.getD k default, ws, ts, d, l) ?_ | apply Qb | apply Qc | apply Qd | apply Qe | apply Qf | apply Qg | apply Qh | apply Qi | exact QA | exact QP | refine QG ?_ | apply Qj | apply Qk | apply Ql | apply Qm | apply Qo | apply Qp | apply Qw | apply Qv | apply Qu | apply Qt | apply Qs | apply Qr | apply Qq | apply Qx | apply wrapS | apply Qy | (with_reducible exact lenNil) | apply Eq.refl)) | ((with_reducible first | apply Y1 | apply Y2 | apply Y3 | show blkEq _ _ _); conv => whnf))
    all_goals try simp only [Int.toNat_natCast] at *
    all_goals first
      | omega
      | exact hb
      | (apply hF; · omega
         rw [okB, h, Bool.not_true, Bool.and_false])
      | (apply hF; · omega
         rw [okB, decide_eq_false, Bool.false_and]; omega)
      | (apply hu.succ; rw [okB, h, decide_eq_true]; · rfl
         omega)
      | exact tsoR_iff.2 ⟨hm, hz, fun i hi => hu.get i (by omega)⟩
      | trace_state
end Go.Eng
namespace Go.Eng
open Go Go.Proofs
def hasF (ws ts : List Int) (d : Int) (l : List (List Put)) (i : Int) : Bool := tsoR ws ts d l && decide (0 ≤ i ∧ i < l.length)
abbrev TsoI := List Int × List Int × Int × List (List Put) × Int
def sHas : FSpec := spec TsoI (fun (ws, ts, d, l, i) => [.agg (tsoC ws ts d l), .i i]) (fun (_, _, _, l, _) => Small l) fun (ws, ts, d, l, i) => .b (hasF ws ts d l i)
def T4 : List (Nat × FSpec) := (55, sTsoRight) :: (59, sPush) :: (61, sNewest) :: (40, sPop) :: T3
theorem T4_ok : GOK Tryd.prog (tab T4) := gok_cons tsoRight_ok (gok_cons push_ok (gok_cons newest_ok (gok_cons pop_ok T3_ok)))
set_option maxHeartbeats 4000000 in
set_option maxRecDepth 100000 in
theorem has_ok : Meets Tryd.prog 39 sHas := by
  refine meets_plain T4_ok rfl [] (fn := Tryd.f39) rfl rfl rfl (by decide) fun ⟨ws, ts, d, l, i⟩ hS => ?_
  repeat' (first | exact @id (emp _ = true) | (intro h; first | exact Bool.noConfusion h | (simp only [Qn] at h) | skip) | ((conv => whnf) <;> (first | exact trivial | apply Qa | apply And.intro | apply Qb | apply Qc | apply Qd | apply Qe | apply Qf | apply Qg | apply Qh | apply Qi | exact QA | exact QP | refine QG ?_ | apply Qj | apply Qk | apply Ql | apply Qm | apply Qo | apply Qp | apply Qw | apply Qv | apply Qu | apply Qt | apply Qs | apply Qr | apply Qq | apply Qx | apply wrapS | apply Qy | (with_reducible exact lenNil) | apply Eq.refl)) | ((with_reducible first | apply Y1 | apply Y2 | apply Y3 | show blkEq _ _ _); conv => whnf))
  all_goals first
    | exact hS.1
    | exact hS.2 _
    | (simp [hasF, *]; done)
    | (simp [hasF, *]; omega)
    | trace_state
def sCloneL : FSpec := lentSpec 0 (List (List Put)) (fun l => [.c (bufsS l)]) (fun _ => []) (fun l => l.length ≤ 1000000) (fun _ => .c (.osl 0)) fun l => [.slc 80 1 l.length (slG bufE l)]
set_option maxHeartbeats 2000000 in
set_option maxRecDepth 100000 in
theorem cloneL_ok : Meets Tryd.prog 58 sCloneL := by
  refine meets_lent 1 (gok_nil _) rfl [] (fn := Tryd.f58) rfl rfl rfl (by decide) (fun _ => rfl) (fun _ => rfl) (by decide) fun l hl => ?_
  repeat' (first | exact @id (emp _ = true) | (intro h; first | exact Bool.noConfusion h | (simp only [Qn] at h) | skip) | ((conv => whnf) <;> (first | exact trivial | apply Qa | apply And.intro | (refine EntP.at [⟨false, 0, 0, 80, 1⟩] [0] ?_; (conv => whnf); fail_if_success (show False)) | apply Qb | apply Qc | apply Qd | apply Qe | apply Qf | apply Qg | apply Qh | apply Qi | exact QA | exact QP | refine QG ?_ | apply Qj | apply Qk | apply Ql | apply Qm | apply Qo | apply Qp | apply Qw | apply Qv | apply Qu | apply Qt | apply Qs | apply Qr | apply Qq | apply Qx | apply wrapS | apply Qy | (with_reducible exact lenNil) | apply Eq.refl)) | ((with_reducible first | apply Y1 | apply Y2 | apply Y3 | show blkEq _ _ _); conv => whnf))
  all_goals have hl : l.length ≤ 1000000 := hl
  all_goals try simp only at *
  all_goals first
    | omega
    | (show (0 + l.length) * 24 ≤ _; omega)
    | trace_state
theorem slG_setE {α : Type} [Inhabited α] {enc : α → List Cell} {q : Nat} (henc : ∀ x, (enc x).length = q) {l : List α} {i : Nat} {x : α} (hi : i < l.length) : ∀ i', i' < l.length → ∀ t, t < q → upd2 (slG enc l) i 0 (enc x) i' t = slG enc (l.set i x) i' t := slG_set henc hi
def sWait : FSpec := lentSpec 1 (List Int × List Int × Int × List (List Put) × Int × List Put) (fun (_, _, _, _, i, b) => [.c (.ptr 0 0), .i i, .c (putsS b)]) (fun (ws, ts, d, l, _, _) => [.row 84 (tsoC ws ts d l)]) (fun (_, _, _, l, i, _) => 0 ≤ i ∧ i < l.length ∧ l.length ≤ 1000000) (fun _ => .tup [])
  fun (ws, ts, d, l, i, b) => [.row 84 [intsS ws, intsS ts, .i d, .osl 1], .slc 80 1 (l.set i.toNat b).length (slG bufE (l.set i.toNat b))]
def T5 : List (Nat × FSpec) := [(58, sCloneL)]
theorem T5_ok : GOK Tryd.prog (tab T5) := gok_cons cloneL_ok (gok_nil _)
set_option maxHeartbeats 4000000 in
set_option maxRecDepth 100000 in
theorem wait_ok : Meets Tryd.prog 42 sWait := by
  refine meets_lent 2 T5_ok rfl [] (fn := Tryd.f42) rfl rfl rfl (by decide) (fun _ => rfl) (fun _ => rfl) (by decide) fun ⟨ws, ts, d, l, i, b⟩ ⟨h0, h1, h2⟩ => ?_
  repeat' (first | exact @id (emp _ = true) | (intro h; first | exact Bool.noConfusion h | (simp only [Qn] at h) | skip) | ((conv => whnf) <;> (first | exact trivial | apply Qa | apply And.intro | apply Qb | apply Qc | apply Qd | apply Qe | apply Qf | apply Qg | apply Qh | apply Qi | exact QA | exact QP | refine QG ?_ | apply Qj | apply Qk | apply Ql | apply Qm | apply Qo | apply Qp | apply Qw | apply Qv | apply Qu | apply Qt | apply Qs | apply Qr | apply Qq | apply Qx | apply wrapS | apply Qy | (with_reducible exact lenNil) | apply Eq.refl)) | ((with_reducible first | apply Y1 | apply Y2 | apply Y3 | show blkEq _ _ _); conv => whnf))
  all_goals first
    | omega
    | (show i.toNat < l.length; omega)
    | (show l.length ≤ 1000000; omega)
    | (show (l.set i.toNat b).length = l.length; exact List.length_set)
    | (rename_i i' hi' t; exact (slG_set (enc := bufE) (k := 1) (fun _ => rfl) (by omega) i' (by rw [List.length_set] at hi'; exact hi') t h).symm)
    | trace_state
/-- What a thread sees. -/
def loadT (t : Tso) (i a : Int) : Int × Int :=
  if hasF t.1 t.2.1 t.2.2.1 t.2.2.2 i = true then
    (if (loadF t.1 t.2.1 a).2 = 0 then (if (newestF (t.2.2.2.getD i.toNat default) a).2 = true then (newestF (t.2.2.2.getD i.toNat default) a).1 else (loadF t.1 t.2.1 a).1, 0) else (0, (loadF t.1 t.2.1 a).2))
  else (0, 1)
def storeT (t : Tso) (i a v : Int) : Tso × Int :=
  if hasF t.1 t.2.1 t.2.2.1 t.2.2.2 i = true then
    (if (storeF t.1 t.2.1 a v).2 = 0 then
      (if t.2.2.1 = 0 then (((storeF t.1 t.2.1 a v).1.1, (storeF t.1 t.2.1 a v).1.2, t.2.2.1, t.2.2.2), 0)
        else if (pushF (t.2.2.2.getD i.toNat default) t.2.2.1 (a, v)).2 = 0 then ((t.1, t.2.1, t.2.2.1, t.2.2.2.set i.toNat (pushF (t.2.2.2.getD i.toNat default) t.2.2.1 (a, v)).1), 0) else (tso0, (pushF (t.2.2.2.getD i.toNat default) t.2.2.1 (a, v)).2))
      else (tso0, (storeF t.1 t.2.1 a v).2))
  else (tso0, 1)
def flushT (t : Tso) (i : Int) : Tso × Int :=
  if hasF t.1 t.2.1 t.2.2.1 t.2.2.2 i = true then
    (if (t.2.2.2.getD i.toNat default).length = 0 then (tso0, 8)
     else if (storeF t.1 t.2.1 ((t.2.2.2.getD i.toNat default).getD 0 default).1 ((t.2.2.2.getD i.toNat default).getD 0 default).2).2 = 0 then
      (((storeF t.1 t.2.1 ((t.2.2.2.getD i.toNat default).getD 0 default).1 ((t.2.2.2.getD i.toNat default).getD 0 default).2).1.1, (storeF t.1 t.2.1 ((t.2.2.2.getD i.toNat default).getD 0 default).1 ((t.2.2.2.getD i.toNat default).getD 0 default).2).1.2, t.2.2.1,
        t.2.2.2.set i.toNat ((t.2.2.2.getD i.toNat default).drop 1)), 0)
     else (tso0, (storeF t.1 t.2.1 ((t.2.2.2.getD i.toNat default).getD 0 default).1 ((t.2.2.2.getD i.toNat default).getD 0 default).2).2))
  else (tso0, 1)
def becF (k w a b : Int) : Int := if k = 0 then (if w = a then b else w) else if k = 1 then a else IntKind.i64.wrap (w + a)
def lockT (t : Tso) (i k a x y : Int) : Tso × Int × Int :=
  if hasF t.1 t.2.1 t.2.2.1 t.2.2.2 i = true ∧ 0 ≤ k ∧ k < 3 then
    (if 0 < (t.2.2.2.getD i.toNat default).length then (tso0, 0, 9)
     else if (loadF t.1 t.2.1 a).2 = 0 then (((storeF t.1 t.2.1 a (becF k (loadF t.1 t.2.1 a).1 x y)).1.1, (storeF t.1 t.2.1 a (becF k (loadF t.1 t.2.1 a).1 x y)).1.2, t.2.2.1, t.2.2.2), (loadF t.1 t.2.1 a).1, 0)
     else (tso0, 0, (loadF t.1 t.2.1 a).2))
  else (tso0, 0, 1)
theorem hasF_iff {ws ts : List Int} {d : Int} {l : List (List Put)} {i : Int} : hasF ws ts d l i = true ↔ tsoR ws ts d l = true ∧ 0 ≤ i ∧ i < l.length := by simp [hasF]
def sTLoad : FSpec := spec (List Int × List Int × Int × List (List Put) × Int × Int) (fun (ws, ts, d, l, i, a) => [.agg (tsoC ws ts d l), .i i, .i a]) (fun (_, _, _, l, _) => Small l) fun (ws, ts, d, l, i, a) => .tup [.c (.i (loadT (ws, ts, d, l) i a).1), .c (.i (loadT (ws, ts, d, l) i a).2)]
def T6 : List (Nat × FSpec) := (39, sHas) :: (42, sWait) :: T4
theorem T6_ok : GOK Tryd.prog (tab T6) := gok_cons has_ok (gok_cons wait_ok T4_ok)
set_option maxHeartbeats 4000000 in
set_option maxRecDepth 100000 in
theorem tload_ok : Meets Tryd.prog 44 sTLoad := by
  refine meets_plain T6_ok rfl [] (fn := Tryd.f44) rfl rfl rfl (by decide) fun ⟨ws, ts, d, l, i, a⟩ hS => ?_
  repeat' (first | exact @id (emp _ = true) | (intro h; first | exact Bool.noConfusion h | (simp only [Qn] at h) | skip) | ((conv => whnf) <;> (first | exact trivial | apply Qa | apply And.intro | apply Qb | apply Qc | apply Qd | apply Qe | apply Qf | apply Qg | apply Qh | apply Qi | exact QA | exact QP | refine QG ?_ | apply Qj | apply Qk | apply Ql | apply Qm | apply Qo | apply Qp | apply Qw | apply Qv | apply Qu | apply Qt | apply Qs | apply Qr | apply Qq | apply Qx | apply wrapS | apply Qy | (with_reducible exact lenNil) | apply Eq.refl)) | ((with_reducible first | apply Y1 | apply Y2 | apply Y3 | show blkEq _ _ _); conv => whnf))
  all_goals first
    | exact hS.1
    | exact hS.2 _
    | (have := (hasF_iff.1 (by assumption)).2; omega)
    | (simp only [loadT, *, ↓reduceIte, Bool.false_eq_true]; done)
    | ((simp only [loadT, *, ↓reduceIte, Bool.false_eq_true]) <;> rfl)
    | trace_state
def sTStore : FSpec := spec (List Int × List Int × Int × List (List Put) × Int × Int × Int) (fun (ws, ts, d, l, i, a, v) => [.agg (tsoC ws ts d l), .i i, .i a, .i v]) (fun (_, _, _, l, _) => Small l) fun (ws, ts, d, l, i, a, v) => .tup [rTso (storeT (ws, ts, d, l) i a v).1, .c (.i (storeT (ws, ts, d, l) i a v).2)]
set_option maxHeartbeats 4000000 in
set_option maxRecDepth 100000 in
theorem tstore_ok : Meets Tryd.prog 43 sTStore := by
  refine meets_plain T6_ok rfl [] (fn := Tryd.f43) rfl rfl rfl (by decide) fun ⟨ws, ts, d, l, i, a, v⟩ hS => ?_
  repeat' (first | exact @id (emp _ = true) | (intro h; first | exact Bool.noConfusion h | (simp only [Qn] at h) | skip) | ((conv => whnf) <;> (first | exact trivial | apply Qa | apply And.intro | apply Qb | apply Qc | apply Qd | apply Qe | apply Qf | apply Qg | apply Qh | apply Qi | exact QA | exact QP | refine QG ?_ | apply Qj | apply Qk | apply Ql | apply Qm | apply Qo | apply Qp | apply Qw | apply Qv | apply Qu | apply Qt | apply Qs | apply Qr | apply Qq | apply Qx | apply wrapS | apply Qy | (with_reducible exact lenNil) | apply Eq.refl)) | ((with_reducible first | apply Y1 | apply Y2 | apply Y3 | show blkEq _ _ _); conv => whnf))
  all_goals first
    | exact hS.1
    | exact hS.2 _
    | (have := (hasF_iff.1 (by assumption)).2; omega)
    | (simp only [storeT, *, ↓reduceIte, Bool.false_eq_true]; done)
    | ((simp only [storeT, *, ↓reduceIte, Bool.false_eq_true]) <;> rfl)
    | (have hd : d = 0 := (by assumption)
       subst hd
       first
        | (simp only [storeT, *, ↓reduceIte, Bool.false_eq_true]; done)
        | ((simp only [storeT, *, ↓reduceIte, Bool.false_eq_true]) <;> rfl))
    | trace_state
theorem CutE.go8 {A B C D E F H I : Type} {p : A × B × C × D × E × F × H × I → Prop} {a : A} {b : B} {c : C} {d : D} {e : E} {f : F} {g : H} {i : I} (h : p (a, b, c, d, e, f, g, i)) : CutE (A × B × C × D × E × F × H × I) p := ⟨⟨(a, b, c, d, e, f, g, i), h⟩⟩
theorem CutE.go9 {A B C D E F H I J : Type} {p : A × B × C × D × E × F × H × I × J → Prop} {a : A} {b : B} {c : C} {d : D} {e : E} {f : F} {g : H} {i : I} {j : J} (h : p (a, b, c, d, e, f, g, i, j)) : CutE (A × B × C × D × E × F × H × I × J) p := ⟨⟨(a, b, c, d, e, f, g, i, j), h⟩⟩
def sBec0 : FSpec := spec (Int × Int × Int) (fun (w, a, b) => [.i w, .i a, .i b]) (fun _ => True) fun (w, a, b) => .i (if w = a then b else w)
def sBec1 : FSpec := spec (Int × Int × Int) (fun (w, a, b) => [.i w, .i a, .i b]) (fun _ => True) fun (w, a, b) => .i a
def sBec2 : FSpec := spec (Int × Int × Int) (fun (w, a, b) => [.i w, .i a, .i b]) (fun _ => True) fun (w, a, b) => .i (IntKind.i64.wrap (w + a))
set_option maxRecDepth 100000 in
theorem bec0_ok : Meets Tryd.prog 79 sBec0 := by
  refine meets_plain (gok_nil _) rfl [] (fn := Tryd.f79) rfl rfl rfl (by decide) fun ⟨w, a, b⟩ _ => ?_
  repeat' (first | exact @id (emp _ = true) | (intro h; first | exact Bool.noConfusion h | (simp only [Qn] at h) | skip) | ((conv => whnf) <;> (first | exact trivial | apply Qa | apply And.intro | apply Qb | apply Qc | apply Qd | apply Qe | apply Qf | apply Qg | apply Qh | apply Qi | exact QA | exact QP | refine QG ?_ | apply Qj | apply Qk | apply Ql | apply Qm | apply Qo | apply Qp | apply Qw | apply Qv | apply Qu | apply Qt | apply Qs | apply Qr | apply Qq | apply Qx | apply wrapS | apply Qy | (with_reducible exact lenNil) | apply Eq.refl)) | ((with_reducible first | apply Y1 | apply Y2 | apply Y3 | show blkEq _ _ _); conv => whnf))
  all_goals first
    | (rw [if_pos (by assumption)]; done)
    | (rw [if_neg (by assumption)]; done)
    | trace_state
set_option maxRecDepth 100000 in
theorem bec1_ok : Meets Tryd.prog 80 sBec1 := by
  refine meets_plain (gok_nil _) rfl [] (fn := Tryd.f80) rfl rfl rfl (by decide) fun ⟨w, a, b⟩ _ => ?_
  repeat' (first | exact @id (emp _ = true) | (intro h; first | exact Bool.noConfusion h | (simp only [Qn] at h) | skip) | ((conv => whnf) <;> (first | exact trivial | apply Qa | apply And.intro | apply Qb | apply Qc | apply Qd | apply Qe | apply Qf | apply Qg | apply Qh | apply Qi | exact QA | exact QP | refine QG ?_ | apply Qj | apply Qk | apply Ql | apply Qm | apply Qo | apply Qp | apply Qw | apply Qv | apply Qu | apply Qt | apply Qs | apply Qr | apply Qq | apply Qx | apply wrapS | apply Qy | (with_reducible exact lenNil) | apply Eq.refl)) | ((with_reducible first | apply Y1 | apply Y2 | apply Y3 | show blkEq _ _ _); conv => whnf))
set_option maxRecDepth 100000 in
theorem bec2_ok : Meets Tryd.prog 81 sBec2 := by
  refine meets_plain (gok_nil _) rfl [] (fn := Tryd.f81) rfl rfl rfl (by decide) fun ⟨w, a, b⟩ _ => ?_
  repeat' (first | exact @id (emp _ = true) | (intro h; first | exact Bool.noConfusion h | (simp only [Qn] at h) | skip) | ((conv => whnf) <;> (first | exact trivial | apply Qa | apply And.intro | apply Qb | apply Qc | apply Qd | apply Qe | apply Qf | apply Qg | apply Qh | apply Qi | exact QA | exact QP | refine QG ?_ | apply Qj | apply Qk | apply Ql | apply Qm | apply Qo | apply Qp | apply Qw | apply Qv | apply Qu | apply Qt | apply Qs | apply Qr | apply Qq | apply Qx | apply wrapS | apply Qy | (with_reducible exact lenNil) | apply Eq.refl)) | ((with_reducible first | apply Y1 | apply Y2 | apply Y3 | show blkEq _ _ _); conv => whnf))
def sBecs : FSpec := spec Unit (fun _ => []) (fun _ => True) fun _ => .s (.agg [.fn 79 [], .fn 80 [], .fn 81 []])
set_option maxRecDepth 100000 in
theorem becs_ok : Meets Tryd.prog 63 sBecs := by
  refine meets_plain (gok_nil _) rfl [] (fn := Tryd.f63) rfl rfl rfl (by decide) fun _ _ => ?_
  repeat' (first | exact @id (emp _ = true) | (intro h; first | exact Bool.noConfusion h | (simp only [Qn] at h) | skip) | ((conv => whnf) <;> (first | exact trivial | apply Qa | apply And.intro | apply Qb | apply Qc | apply Qd | apply Qe | apply Qf | apply Qg | apply Qh | apply Qi | exact QA | exact QP | refine QG ?_ | apply Qj | apply Qk | apply Ql | apply Qm | apply Qo | apply Qp | apply Qw | apply Qv | apply Qu | apply Qt | apply Qs | apply Qr | apply Qq | apply Qx | apply wrapS | apply Qy | (with_reducible exact lenNil) | apply Eq.refl)) | ((with_reducible first | apply Y1 | apply Y2 | apply Y3 | show blkEq _ _ _); conv => whnf))
def T7 : List (Nat × FSpec) := (63, sBecs) :: (79, sBec0) :: (80, sBec1) :: (81, sBec2) :: T6
theorem T7_ok : GOK Tryd.prog (tab T7) := gok_cons becs_ok (gok_cons bec0_ok (gok_cons bec1_ok (gok_cons bec2_ok T6_ok)))
def sTLock : FSpec := spec (List Int × List Int × Int × List (List Put) × Int × Int × Int × Int × Int) (fun (ws, ts, d, l, i, k, a, x, y) => [.agg (tsoC ws ts d l), .i i, .i k, .i a, .i x, .i y]) (fun (_, _, _, l, _) => Small l)
  fun (ws, ts, d, l, i, k, a, x, y) => .tup [rTso (lockT (ws, ts, d, l) i k a x y).1, .c (.i (lockT (ws, ts, d, l) i k a x y).2.1), .c (.i (lockT (ws, ts, d, l) i k a x y).2.2)]
set_option maxHeartbeats 4000000 in
set_option maxRecDepth 100000 in
theorem tlock_ok : Meets Tryd.prog 46 sTLock := by
  refine meets_plain T7_ok rfl [] (fn := Tryd.f46) rfl rfl rfl (by decide) fun ⟨ws, ts, d, l, i, k, a, x, y⟩ hS => ?_
  repeat' (first | exact @id (emp _ = true) | (intro h; first | exact Bool.noConfusion h | (simp only [Qn] at h) | skip) | ((conv => whnf) <;> (first | exact trivial | apply Qa | apply And.intro | apply Qb | apply Qc | apply Qd | apply Qe | apply Qf | apply Qg | apply Qh | apply Qi | exact QA | exact QP | refine QG ?_ | apply Qj | apply Qk | apply Ql | apply Qm | apply Qo | apply Qp | apply Qw | apply Qv | apply Qu | apply Qt | apply Qs | apply Qr | apply Qq | apply Qx | apply wrapS | apply Qy | (with_reducible exact lenNil) | apply Eq.refl)) | ((with_reducible first | apply Y1 | apply Y2 | apply Y3 | show blkEq _ _ _); conv => whnf))
  all_goals first
    | exact hS.1
    | exact hS.2 _
    | omega
    | (have := (hasF_iff.1 (by assumption)).2; omega)
    | (by_cases hh : hasF ws ts d l i = true ∧ 0 ≤ k ∧ k < 3
       · by_cases h9 : 0 < (l.getD i.toNat default).length
         · first
            | (exfalso; omega)
            | (exfalso; simp_all; done)
            | (simp only [lockT, hh, h9, and_self, ↓reduceIte]; done)
            | ((simp only [lockT, hh, h9, and_self, ↓reduceIte]) <;> rfl)
         · by_cases hl : (loadF ws ts a).2 = 0
           · have hk2 := hh.2
             obtain hk | hk | hk : k = 0 ∨ k = 1 ∨ k = 2 := by omega
             all_goals subst hk
             all_goals first
              | (exfalso; omega)
              | (simp only [lockT, hh, h9, hl, and_self, ↓reduceIte]; done)
              | ((simp only [lockT, hh, h9, hl, and_self, ↓reduceIte]) <;> rfl)
              | (exfalso; simp_all; done)
           · first
              | (exfalso; omega)
              | (simp only [lockT, hh, h9, hl, and_self, ↓reduceIte]; done)
              | ((simp only [lockT, hh, h9, hl, and_self, ↓reduceIte]) <;> rfl)
              | (exfalso; simp_all; done)
       · first
          | (simp only [lockT, hh, ↓reduceIte]; done)
          | ((simp only [lockT, hh, ↓reduceIte]) <;> rfl)
          | (exfalso; exact hh ⟨by assumption, by omega, by omega⟩))
    | trace_state
def sTFlush : FSpec := spec TsoI (fun (ws, ts, d, l, i) => [.agg (tsoC ws ts d l), .i i]) (fun (_, _, _, l, _) => Small l) fun (ws, ts, d, l, i) => .tup [rTso (flushT (ws, ts, d, l) i).1, .c (.i (flushT (ws, ts, d, l) i).2)]
set_option maxHeartbeats 4000000 in
set_option maxRecDepth 100000 in
theorem tflush_ok : Meets Tryd.prog 19 sTFlush := by
  refine meets_plain T6_ok rfl [] (fn := Tryd.f19) rfl rfl rfl (by decide) fun ⟨ws, ts, d, l, i⟩ hS => ?_
  repeat' (first | exact @id (emp _ = true) | (intro h; first | exact Bool.noConfusion h | (simp only [Qn] at h) | skip) | ((conv => whnf) <;> (first | exact trivial | apply Qa | apply And.intro | apply Qb | apply Qc | apply Qd | apply Qe | apply Qf | apply Qg | apply Qh | apply Qi | exact QA | exact QP | refine QG ?_ | apply Qj | apply Qk | apply Ql | apply Qm | apply Qo | apply Qp | apply Qw | apply Qv | apply Qu | apply Qt | apply Qs | apply Qr | apply Qq | apply Qx | apply wrapS | apply Qy | (with_reducible exact lenNil) | apply Eq.refl)) | ((with_reducible first | apply Y1 | apply Y2 | apply Y3 | show blkEq _ _ _); conv => whnf))
  all_goals first
    | exact hS.1
    | exact hS.2 _
    | (have := (hasF_iff.1 (by assumption)).2; omega)
    | (have h8 : ¬ (l.getD i.toNat default).length = 0 := (by intro h8; rw [if_pos h8] at *; contradiction)
       first
        | (simp only [flushT, *, ↓reduceIte, Bool.false_eq_true]; done)
        | ((simp only [flushT, *, ↓reduceIte, Bool.false_eq_true]) <;> rfl))
    | (have h8 : (l.getD i.toNat default).length = 0 := (by by_cases h8 : (l.getD i.toNat default).length = 0; exact h8; rw [if_neg h8] at *; contradiction)
       first
        | (simp only [flushT, *, ↓reduceIte, Bool.false_eq_true]; done)
        | ((simp only [flushT, *, ↓reduceIte, Bool.false_eq_true]) <;> rfl))
    | (simp only [flushT, *, ↓reduceIte, Bool.false_eq_true]; done)
    | ((simp only [flushT, *, ↓reduceIte, Bool.false_eq_true]) <;> rfl)
    | trace_state
end Go.Eng
