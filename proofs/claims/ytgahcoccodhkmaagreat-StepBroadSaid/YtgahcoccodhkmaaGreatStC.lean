/- A part of the walks, and of the machine that proves them (StC). -/
import Derived.Test.YtgahcoccodhkmaaGreatStA
import Derived.Test.YtgahcoccodhkmaaGreatTsB
import Derived.Test.YtgahcoccodhkmaaGreatLoJ
set_option linter.unusedVariables false
set_option linter.unusedSimpArgs false
namespace Go.Eng
open Go Go.Proofs
theorem ba_loop (bs : ByteArray) : ∀ (n i : Nat) (r : List UInt8), bs.size - i = n → ByteArray.toList.loop bs i r = r.reverse ++ bs.data.toList.drop i
  | 0, i, r, h => by
    unfold ByteArray.toList.loop
    have hs : bs.size = bs.data.toList.length := by rw [Array.length_toList]; rfl
    rw [if_neg (by omega), List.drop_eq_nil_of_le (by omega), List.append_nil]
  | n + 1, i, r, h => by
    unfold ByteArray.toList.loop
    have hs : bs.size = bs.data.toList.length := by rw [Array.length_toList]; rfl
    rw [if_pos (by omega), ba_loop bs n (i + 1) _ (by omega), List.reverse_cons, List.append_assoc, List.drop_eq_getElem_cons (by omega : i < bs.data.toList.length)]
    have : bs.get! i = bs.data.toList[i]'(by omega) := by
      show bs.data[i]! = _
      rw [getElem!_pos bs.data i (show i < bs.data.size from (by omega : i < bs.size))]
      simp
    rw [this]; rfl
theorem ba_toList (bs : ByteArray) : bs.toList = bs.data.toList := by
  unfold ByteArray.toList
  rw [ba_loop bs _ 0 [] rfl]; rfl
theorem strEq_data (a b : ByteArray) : strEq a b = (a.data.toList == b.data.toList) := by
  unfold strEq; rw [ba_toList, ba_toList]
def nameS (op : Int) : ByteArray := if 0 ≤ op ∧ op ≤ 26 then nameL.getD op.toNat ByteArray.empty else ByteArray.empty
def sName : FSpec := spec Int (fun op => [.i op]) (fun _ => True) fun op => .c (.v (.string (nameS op)))
def sKinds : FSpec := spec Int (fun op => [.i op]) (fun op => 0 ≤ op ∧ op ≤ 26) fun op => .c (.v (.string (kindS op)))
theorem nameS_no {op : Int} (h : ¬ (0 ≤ op ∧ op ≤ 26)) : nameS op = ByteArray.empty := if_neg h
set_option maxHeartbeats 8000000 in
set_option maxRecDepth 100000 in
theorem kinds_ok : Meets Tryz.prog 95 sKinds := by
  refine meets_plain (gok_nil _) rfl [] (fn := Tryz.f95) rfl rfl rfl (by decide) fun op hp => ?_
  have hop : op = 0 ∨ op = 1 ∨ op = 2 ∨ op = 3 ∨ op = 4 ∨ op = 5 ∨ op = 6 ∨ op = 7 ∨ op = 8 ∨ op = 9 ∨ op = 10 ∨ op = 11 ∨ op = 12 ∨ op = 13 ∨ op = 14 ∨ op = 15 ∨ op = 16 ∨ op = 17 ∨ op = 18 ∨ op = 19 ∨ op = 20 ∨ op = 21 ∨ op = 22 ∨ op = 23 ∨ op = 24 ∨ op = 25 ∨ op = 26 := by have hp : 0 ≤ op ∧ op ≤ 26 := hp; omega
  clear hp
  rcases hop with rfl | rfl | rfl | rfl | rfl | rfl | rfl | rfl | rfl | rfl | rfl | rfl | rfl | rfl | rfl | rfl | rfl | rfl | rfl | rfl | rfl | rfl | rfl | rfl | rfl | rfl | rfl
  all_goals repeat' (first | exact @id (emp _ = true) | (intro h; first | exact Bool.noConfusion h | (simp only [Qn] at h) | skip) | ((conv => whnf) <;> (first | exact trivial | apply Qa | apply And.intro | apply Qb | apply Qc | apply Qd | apply Qe | apply Qf | apply Qg | apply Qh | apply Qi | exact QA | exact QP | refine QG ?_ | apply Qj | apply Qk | apply Ql | apply Qm | apply Qo | apply Qp | apply Qw | apply Qv | apply Qu | apply Qt | apply Qs | apply Qr | apply Qq | apply Qx | apply wrapS | apply Qy | (with_reducible exact lenNil) | apply Eq.refl)) | ((with_reducible first | apply Y1 | apply Y2 | apply Y3 | show blkEq _ _ _); conv => whnf))
  all_goals first | omega | decide | trace_state
set_option maxHeartbeats 8000000 in
set_option maxRecDepth 100000 in
theorem name_ok : Meets Tryz.prog 94 sName := by
  refine meets_plain (gok_nil _) rfl [] (fn := Tryz.f94) rfl rfl rfl (by decide) fun op _ => ?_
  by_cases hp : 0 ≤ op ∧ op ≤ 26
  · have hop : op = 0 ∨ op = 1 ∨ op = 2 ∨ op = 3 ∨ op = 4 ∨ op = 5 ∨ op = 6 ∨ op = 7 ∨ op = 8 ∨ op = 9 ∨ op = 10 ∨ op = 11 ∨ op = 12 ∨ op = 13 ∨ op = 14 ∨ op = 15 ∨ op = 16 ∨ op = 17 ∨ op = 18 ∨ op = 19 ∨ op = 20 ∨ op = 21 ∨ op = 22 ∨ op = 23 ∨ op = 24 ∨ op = 25 ∨ op = 26 := by omega
    clear hp
    rcases hop with rfl | rfl | rfl | rfl | rfl | rfl | rfl | rfl | rfl | rfl | rfl | rfl | rfl | rfl | rfl | rfl | rfl | rfl | rfl | rfl | rfl | rfl | rfl | rfl | rfl | rfl | rfl
    all_goals repeat' (first | exact @id (emp _ = true) | (intro h; first | exact Bool.noConfusion h | (simp only [Qn] at h) | skip) | ((conv => whnf) <;> (first | exact trivial | apply Qa | apply And.intro | apply Qb | apply Qc | apply Qd | apply Qe | apply Qf | apply Qg | apply Qh | apply Qi | exact QA | exact QP | refine QG ?_ | apply Qj | apply Qk | apply Ql | apply Qm | apply Qo | apply Qp | apply Qw | apply Qv | apply Qu | apply Qt | apply Qs | apply Qr | apply Qq | apply Qx | apply wrapS | apply Qy | (with_reducible exact lenNil) | apply Eq.refl)) | ((with_reducible first | apply Y1 | apply Y2 | apply Y3 | show blkEq _ _ _); conv => whnf))
    all_goals first | omega | decide | trace_state
  · repeat' (first | exact @id (emp _ = true) | (intro h; first | exact Bool.noConfusion h | (simp only [Qn] at h) | skip) | ((conv => whnf) <;> (first | exact trivial | apply Qa | apply And.intro | apply Qb | apply Qc | apply Qd | apply Qe | apply Qf | apply Qg | apply Qh | apply Qi | exact QA | exact QP | refine QG ?_ | apply Qj | apply Qk | apply Ql | apply Qm | apply Qo | apply Qp | apply Qw | apply Qv | apply Qu | apply Qt | apply Qs | apply Qr | apply Qq | apply Qx | apply wrapS | apply Qy | (with_reducible exact lenNil) | apply Eq.refl)) | ((with_reducible first | apply Y1 | apply Y2 | apply Y3 | show blkEq _ _ _); conv => whnf))
    all_goals first | omega | (rw [nameS_no hp]; rfl) | trace_state
def sOperand : FSpec := spec (Ins × Nat) (fun (i, k) => [.agg (encIns i), .i (k : Int)]) (fun (_, k) => k < 3) fun (i, k) => .i ([i.2.1, i.2.2.1, i.2.2.2].getD k 0)
set_option maxHeartbeats 4000000 in
set_option maxRecDepth 100000 in
theorem operand_ok : Meets Tryz.prog 96 sOperand := by
  refine meets_plain (gok_nil _) rfl [] (fn := Tryz.f96) rfl rfl rfl (by decide) fun ⟨⟨op, a, b, c⟩, k⟩ hk => ?_
  have hk : k < 3 := hk
  have hk : k = 0 ∨ k = 1 ∨ k = 2 := by omega
  rcases hk with rfl | rfl | rfl
  all_goals repeat' (first | exact @id (emp _ = true) | (intro h; first | exact Bool.noConfusion h | (simp only [Qn] at h) | skip) | ((conv => whnf) <;> (first | exact trivial | apply Qa | apply And.intro | apply Qb | apply Qc | apply Qd | apply Qe | apply Qf | apply Qg | apply Qh | apply Qi | exact QA | exact QP | refine QG ?_ | apply Qj | apply Qk | apply Ql | apply Qm | apply Qo | apply Qp | apply Qw | apply Qv | apply Qu | apply Qt | apply Qs | apply Qr | apply Qq | apply Qx | apply wrapS | apply Qy | (with_reducible exact lenNil) | apply Eq.refl)) | ((with_reducible first | apply Y1 | apply Y2 | apply Y3 | show blkEq _ _ _); conv => whnf))
  all_goals trace_state
theorem nameS_empty {op : Int} : strEq (nameS op) ByteArray.empty = !decide (0 ≤ op ∧ op ≤ 26) := by
  by_cases h : 0 ≤ op ∧ op ≤ 26
  · have key : ∀ j : Fin 27, ((nameL.getD j.1 ByteArray.empty).data.toList == ByteArray.empty.data.toList) = false := by decide
    have := key ⟨op.toNat, by omega⟩
    rw [strEq_data]
    unfold nameS
    rw [if_pos h, decide_eq_true h]
    exact this
  · rw [nameS_no h, decide_eq_false h, strEq_data]
    rfl
def R51 : List (Nat × FSpec) := [(94, sName), (95, sKinds), (96, sOperand)]
theorem R51_ok : GOK Tryz.prog (tab R51) := gok_cons name_ok (gok_cons kinds_ok (gok_cons operand_ok (gok_nil _)))
def sMay5 : FSpec := spec (Ins × Int) (fun (i, n) => [.agg (encIns i), .i n]) (fun _ => True) fun (i, n) => .b (insR n i)
set_option maxHeartbeats 4000000 in
set_option maxRecDepth 100000 in
theorem may5_ok : Meets Tryz.prog 45 sMay5 := by
  refine meets_plain R51_ok rfl [] (fn := Tryz.f45) rfl rfl rfl (by decide) fun ⟨⟨op, a, b, c⟩, n⟩ _ => ?_
  have hE := nameS_empty (op := op)
  by_cases hop : 0 ≤ op ∧ op ≤ 26
  rotate_left 1
  · rw [decide_eq_false hop] at hE
    have hno : insR n (op, a, b, c) = false := insR_no fun h => hop h.1
    repeat' (first | exact @id (emp _ = true) | (intro h; first | exact Bool.noConfusion h | (simp only [Qn] at h) | skip) | ((conv => whnf) <;> (first | exact trivial | apply Qa | apply And.intro | apply Qb | apply Qc | apply Qd | apply Qe | apply Qf | apply Qg | apply Qh | apply Qi | exact QA | exact QP | refine QG ?_ | apply Qj | apply Qk | apply Ql | apply Qm | apply Qo | apply Qp | apply Qw | apply Qv | apply Qu | apply Qt | apply Qs | apply Qr | apply Qq | apply Qx | apply wrapS | apply Qy | (with_reducible exact lenNil) | apply Eq.refl)) | ((with_reducible first | apply Y1 | apply Y2 | apply Y3 | show blkEq _ _ _); conv => whnf))
    all_goals first
      | exact hno
      | (exfalso; exact Bool.noConfusion (hE.symm.trans (by assumption)))
      | trace_state
  rw [decide_eq_true hop] at hE
  obtain ⟨s1, s2, s3, s4⟩ := kinds_spec hop
  have hF : ∀ k, k < 3 → okOp n (op, a, b, c) k = false → insR n (op, a, b, c) = false := fun k hk h => insR_no fun hh => Bool.noConfusion ((hh.2 k hk).symm.trans h)
  repeat' (first | exact @id (emp _ = true) | (intro h; first | exact Bool.noConfusion h | (simp only [Qn] at h) | skip) | ((conv => whnf) <;> (first | exact trivial | apply Qa | apply And.intro | apply Qb | apply Qc | apply Qd | apply Qe | apply Qf | apply Qg | apply Qh | apply Qi | exact QA | exact QP | refine QG ?_ | apply Qj | apply Qk | apply Ql | apply Qm | apply Qo | apply Qp | apply Qw | apply Qv | apply Qu | apply Qt | apply Qs | apply Qr | apply Qq | apply Qx | apply wrapS | apply Qy | (with_reducible exact lenNil) | apply Eq.refl)) | ((with_reducible first | apply Y1 | apply Y2 | apply Y3 | show blkEq _ _ _); conv => whnf))
  all_goals try (exfalso; exact Bool.noConfusion (hE.symm.trans (by assumption)))
  all_goals try omega
  apply LoopP.up (G := Nat) (fun k => k ≤ 3 ∧ Up k fun j => okOp n (op, a, b, c) j = true) [1, 2, 5, 6] (fun k => [(6, .i k)]) (fun _ => []) 1 (fun k => 3 - k)
  apply And.intro
  · refine CutE.at 0 ?_
    repeat' (first | exact @id (emp _ = true) | (intro h; first | exact Bool.noConfusion h | (simp only [Qn] at h) | skip) | ((conv => whnf) <;> (first | exact trivial | apply Qa | apply And.intro | apply EntP.id 1 | apply Qb | apply Qc | apply Qd | apply Qe | apply Qf | apply Qg | apply Qh | apply Qi | exact QA | exact QP | refine QG ?_ | apply Qj | apply Qk | apply Ql | apply Qm | apply Qo | apply Qp | apply Qw | apply Qv | apply Qu | apply Qt | apply Qs | apply Qr | apply Qq | apply Qx | apply wrapS | apply Qy | (with_reducible exact lenNil) | apply Eq.refl)) | ((with_reducible first | apply Y1 | apply Y2 | apply Y3 | show blkEq _ _ _); conv => whnf))
    all_goals try simp only [Int.toNat_natCast, Int.toNat_zero, ge_iff_le, gt_iff_lt, Int.ofNat_le, Int.ofNat_lt, Int.ofNat_inj] at *
    all_goals first
      | omega
      | (dsimp only; omega)
      | assumption
      | exact Up.zero _
      | (show ((8 : Nat) : Int) * _ ≤ _; omega)
      | (show _ * (8 : Nat) ≤ _; omega)
      | (show _ * (16 : Nat) ≤ _; omega)
      | (show _ * (24 : Nat) ≤ _; omega)
      | trace_state
  · intro k ⟨hk, hu⟩
    have hF := hF k
    have s3 := s3 k
    have s4 := s4 k
    have hv : okOp n (op, a, b, c) k = okV n (kdF op k) ([a, b, c].getD k 0) := rfl
    repeat' (first | exact @id (emp _ = true) | (intro h; first | exact Bool.noConfusion h | (simp only [Qn] at h) | skip) | ((conv => whnf) <;> (first | exact trivial | apply Qa | apply And.intro | refine CutE.at (A := Nat) (k + 1) ?_ | apply EntP.id 1 | refine CutE.at ((op, a, b, c), k) ?_ | apply Qb | apply Qc | apply Qd | apply Qe | apply Qf | apply Qg | apply Qh | apply Qi | exact QA | exact QP | refine QG ?_ | apply Qj | apply Qk | apply Ql | apply Qm | apply Qo | apply Qp | apply Qw | apply Qv | apply Qu | apply Qt | apply Qs | apply Qr | apply Qq | apply Qx | apply wrapS | apply Qy | (with_reducible exact lenNil) | apply Eq.refl)) | ((with_reducible first | apply Y1 | apply Y2 | apply Y3 | show blkEq _ _ _); conv => whnf))
    all_goals try omega
    all_goals try simp only [Int.toNat_natCast] at *
    all_goals first
      | (show 3 - (k + 1) < 3 - k; omega)
      | exact insR_iff.2 ⟨by assumption, fun j hj => hu.get j (by omega)⟩
      | exact (show k < 3 by omega)
      | (show (k : Int) < ((strLen (kindS op) : Nat) : Int); omega)
      | (refine hF (by omega) ?_; rw [hv]; refine decide_eq_false ?_; omega)
      | (refine hu.succ ?_; rw [hv]; refine decide_eq_true ?_; omega)
      | trace_state
end Go.Eng
namespace Go.Eng
open Go Go.Proofs
instance : Inhabited Th := ⟨th0⟩
abbrev Ev := Int × Int × Int × Int × Int × Int
def encEv (e : Ev) : List Cell := [.i e.1, .i e.2.1, .i e.2.2.1, .i e.2.2.2.1, .i e.2.2.2.2.1, .i e.2.2.2.2.2]
abbrev evsS (l : List Ev) : Cell := slC 6 encEv l
structure Wd where
  code : List Ins
  ws : List Int
  ts : List Int
  d : Int
  l : List (List Put)
  th : List Th
  ev : List Ev
  deriving DecidableEq
/-- A thread; e: where its Left is empty there is no room behind it. -/
def thE (e : Bool) (t : Th) : List Cell := [.i t.pc, .i t.r0, .i t.r1, .i t.r2, .i t.r3, .i t.r4, .i t.r5, .i t.r6, .i t.r7, frsS t.fs, .i t.st, .i t.fa, .ro t.lf.length 1 (e && emp t.lf) (slG encI t.lf)]
abbrev thsS (e : Bool) (l : List Th) : Cell := slC 13 (thE e) l
def wdC (e : Bool) (w : Wd) : List Cell := [codeS w.code, intsS w.ws, intsS w.ts, .i w.d, bufsS w.l, thsS e w.th, evsS w.ev]
def wd0 : Wd := ⟨[], [], [], 0, [], [], []⟩
/-- A thread, among n. -/
def okTh (n : Nat) (t : Th) : Bool := thR t && decide (t.lf.length = 0 ∨ t.lf.length = n)
def worldR (w : Wd) : Bool := codeR w.code && tsoR w.ws w.ts w.d w.l && decide (w.th.length = w.l.length) && w.th.all (okTh w.th.length)
structure SmallW (w : Wd) : Prop where
  l : Small w.l
  n : w.th.length ≤ 1000000
  th : ∀ i, SmallT (w.th.getD i default)
theorem worldR_iff {w : Wd} : worldR w = true ↔ codeR w.code = true ∧ tsoR w.ws w.ts w.d w.l = true ∧ w.th.length = w.l.length ∧ ∀ i, i < w.th.length → okTh w.th.length (w.th.getD i default) = true := by
  simp only [worldR, Bool.and_eq_true, decide_eq_true_eq, List.all_eq_true]
  constructor
  · rintro ⟨⟨⟨h1, h2⟩, h3⟩, h4⟩
    refine ⟨h1, h2, h3, fun i hi => ?_⟩
    rw [List.getD_eq_getElem?_getD, List.getElem?_eq_getElem hi]
    exact h4 _ (List.getElem_mem hi)
  · rintro ⟨h1, h2, h3, h4⟩
    refine ⟨⟨⟨h1, h2⟩, h3⟩, fun t ht => ?_⟩
    obtain ⟨i, hi, rfl⟩ := List.getElem_of_mem ht
    have := h4 i hi
    rwa [List.getD_eq_getElem?_getD, List.getElem?_eq_getElem hi] at this
theorem worldR_no {w : Wd} (h : ¬ (codeR w.code = true ∧ tsoR w.ws w.ts w.d w.l = true ∧ w.th.length = w.l.length ∧ ∀ i, i < w.th.length → okTh w.th.length (w.th.getD i default) = true)) : worldR w = false := by
  cases e : worldR w with
  | false => rfl
  | true => exact absurd (worldR_iff.1 e) h
theorem worldR_any {w : Wd} (h1 : codeR w.code = true) (h2 : tsoR w.ws w.ts w.d w.l = true) (h3 : w.th.length = w.l.length) : worldR w = !(w.th.any fun t => !okTh w.th.length t) := by
  unfold worldR
  rw [h1, h2, decide_eq_true h3, Bool.true_and, Bool.true_and, Bool.true_and, List.any_eq_not_all_not]
  simp
def badT (n : Nat) (t : Th) : Bool := !okTh n t
theorem badT_ne {n : Nat} {t : Th} (h : thR t = true) (h2 : (t.lf.length : Int) > 0) : badT n t = ((t.lf.length : Int) != (n : Int)) := by
  unfold badT okTh
  rw [h, Bool.true_and, bne]
  congr 1
  rw [Bool.eq_iff_iff, decide_eq_true_eq, beq_iff_eq]
  omega
abbrev wdB (e : Bool) (w : Wd) : List Blk := [.row 33 (wdC e w)]
def sBadT : FSpec := lentSpec 1 (Bool × Th × Wd) (fun (e, t, _) => [.agg (thE e t), .c (.ptr 0 0)]) (fun (e, _, w) => wdB e w) (fun (_, t, _) => SmallT t) (fun (_, t, w) => .b (badT w.th.length t)) fun (e, _, w) => wdB e w
def D1 : List (Nat × FSpec) := [(41, sThR)]
theorem D1_ok : GOK Tryz.prog (tab D1) := gok_cons thR_ok (gok_nil _)
set_option maxHeartbeats 4000000 in
set_option maxRecDepth 100000 in
theorem badT_ok : Meets Tryz.prog 40 sBadT := by
  refine meets_lent 1 D1_ok rfl [] (fn := Tryz.f40) rfl rfl rfl (by decide) (fun _ => rfl) (fun _ => rfl) (by decide) fun ⟨e, t, w⟩ hs => ?_
  have hs : SmallT t := hs
  repeat' (first | exact @id (emp _ = true) | (intro h; first | exact Bool.noConfusion h | (simp only [Qn] at h) | skip) | ((conv => whnf) <;> (first | exact trivial | apply Qa | apply And.intro | refine CutE.at t ?_ | apply Qb | apply Qc | apply Qd | apply Qe | apply Qf | apply Qg | apply Qh | apply Qi | exact QA | exact QP | refine QG ?_ | apply Qj | apply Qk | apply Ql | apply Qm | apply Qo | apply Qp | apply Qw | apply Qv | apply Qu | apply Qt | apply Qs | apply Qr | apply Qq | apply Qx | apply wrapS | apply Qy | (with_reducible exact lenNil) | apply Eq.refl)) | ((with_reducible first | apply Y1 | apply Y2 | apply Y3 | show blkEq _ _ _); conv => whnf))
  all_goals first
    | exact hs.1
    | exact hs.2
    | exact badT_ne (by assumption) (by assumption)
    | (show badT w.th.length t = _; unfold badT okTh; rw [‹thR t = _›]; first | rfl | (rw [decide_eq_true (by omega)]; rfl) | (rw [decide_eq_false (by omega)]; rfl) | (rw [decide_eq_true (by omega)]; simp only [Bool.true_and, Bool.not_true]; symm; first | (apply decide_eq_false; omega)) | (rw [decide_eq_false (by omega)]; simp only [Bool.true_and, Bool.and_false, Bool.not_false]; symm; first | (apply decide_eq_true; omega)))
    | trace_state
def D2 : List (Nat × FSpec) := (40, sBadT) :: D1
theorem D2_ok : GOK Tryz.prog (tab D2) := gok_cons badT_ok D1_ok
def sThIdx : FSpec := lentSpec 1 (Bool × List Th × Wd) (fun (e, b, w) => [.c (thsS e b), .c (.fn 40 [.ptr 0 0])]) (fun (e, b, w) => wdB e w) (fun (e, b, w) => b.length ≤ 1000000 ∧ ∀ i, SmallT (b.getD i default))
  (fun (e, b, w) => .i (idxW (badT w.th.length) b 0)) fun (e, b, w) => wdB e w
set_option maxHeartbeats 4000000 in
set_option maxRecDepth 100000 in
theorem ThIdx_ok : Meets Tryz.prog 89 sThIdx := by
  refine meets_lent 1 D2_ok rfl [] (fn := Tryz.f89) rfl rfl rfl (by decide) (fun _ => rfl) (fun _ => rfl) (by decide) fun ⟨e, b, w⟩ ⟨hb, hpre⟩ => ?_
  have hb : b.length ≤ 1000000 := hb
  repeat' (first | exact @id (emp _ = true) | (intro h; first | exact Bool.noConfusion h | (simp only [Qn] at h) | skip) | ((conv => whnf) <;> (first | exact trivial | apply Qa | apply And.intro | apply Qb | apply Qc | apply Qd | apply Qe | apply Qf | apply Qg | apply Qh | apply Qi | exact QA | exact QP | refine QG ?_ | apply Qj | apply Qk | apply Ql | apply Qm | apply Qo | apply Qp | apply Qw | apply Qv | apply Qu | apply Qt | apply Qs | apply Qr | apply Qq | apply Qx | apply wrapS | apply Qy | (with_reducible exact lenNil) | apply Eq.refl)) | ((with_reducible first | apply Y1 | apply Y2 | apply Y3 | show blkEq _ _ _); conv => whnf))
  apply LoopP.up (G := Nat) (fun k => k ≤ b.length ∧ idxW (badT w.th.length) b 0 = idxW (badT w.th.length) (b.drop k) k) [0, 1, 7, 8] (fun k => [(8, .i k)]) (fun _ => []) 1 (fun k => b.length - k)
  apply And.intro
  · refine CutE.at 0 ?_
    repeat' (first | exact @id (emp _ = true) | (intro h; first | exact Bool.noConfusion h | (simp only [Qn] at h) | skip) | ((conv => whnf) <;> (first | exact trivial | apply Qa | apply And.intro | apply EntP.id 1 | apply Qb | apply Qc | apply Qd | apply Qe | apply Qf | apply Qg | apply Qh | apply Qi | exact QA | exact QP | refine QG ?_ | apply Qj | apply Qk | apply Ql | apply Qm | apply Qo | apply Qp | apply Qw | apply Qv | apply Qu | apply Qt | apply Qs | apply Qr | apply Qq | apply Qx | apply wrapS | apply Qy | (with_reducible exact lenNil) | apply Eq.refl)) | ((with_reducible first | apply Y1 | apply Y2 | apply Y3 | show blkEq _ _ _); conv => whnf))
    all_goals try simp only [Int.toNat_natCast, Int.toNat_zero, ge_iff_le, gt_iff_lt, Int.ofNat_le, Int.ofNat_lt, Int.ofNat_inj] at *
    all_goals first
      | omega
      | (dsimp only; omega)
      | assumption
      | exact Up.zero _
      | (show ((8 : Nat) : Int) * _ ≤ _; omega)
      | (show _ * (8 : Nat) ≤ _; omega)
      | (show _ * (16 : Nat) ≤ _; omega)
      | (show _ * (24 : Nat) ≤ _; omega)
      | trace_state
  · intro k ⟨hk, hI⟩
    have hs : k < b.length → idxW (badT w.th.length) (b.drop k) k = if (badT w.th.length) (b.getD k default) = true then (k : Int) else idxW (badT w.th.length) (b.drop (k + 1)) (k + 1) := fun h => by rw [drop_getD (d := default) h, idxW]
    repeat' (first | exact @id (emp _ = true) | (intro h; first | exact Bool.noConfusion h | (simp only [Qn] at h) | skip) | ((conv => whnf) <;> (first | exact trivial | apply Qa | apply And.intro | refine CutE.at (A := Nat) (k + 1) ?_ | apply EntP.id 1 | refine CutE.at (e, b.getD k default, w) ?_ | apply Qb | apply Qc | apply Qd | apply Qe | apply Qf | apply Qg | apply Qh | apply Qi | exact QA | exact QP | refine QG ?_ | apply Qj | apply Qk | apply Ql | apply Qm | apply Qo | apply Qp | apply Qw | apply Qv | apply Qu | apply Qt | apply Qs | apply Qr | apply Qq | apply Qx | apply wrapS | apply Qy | (with_reducible exact lenNil) | apply Eq.refl)) | ((with_reducible first | apply Y1 | apply Y2 | apply Y3 | show blkEq _ _ _); conv => whnf))
    all_goals try simp only [Int.toNat_natCast] at *
    all_goals first
      | omega
      | (rw [hI, hs (by omega), if_pos (by assumption)])
      | (rw [hI, hs (by omega), if_pos (show (!_) = true by first | (rw [h]; rfl) | assumption)])
      | (rw [hI, hs (by omega), if_neg (by assumption)])
      | (rw [hI, hs (by omega), if_neg (show ¬ (!_) = true by first | (rw [h]; exact Bool.noConfusion) | assumption)])
      | (rw [hI, hs (by omega), h]; rfl)
      | (rw [hI, List.drop_eq_nil_of_le (by omega)]; rfl)
      | exact (hpre k).1
      | exact (hpre k).2
      | trace_state
def sThCont : FSpec := lentSpec 1 (Bool × List Th × Wd) (fun (e, b, w) => [.c (thsS e b), .c (.fn 40 [.ptr 0 0])]) (fun (e, b, w) => wdB e w) (fun (e, b, w) => b.length ≤ 1000000 ∧ ∀ i, SmallT (b.getD i default))
  (fun (e, b, w) => .b (b.any (badT w.th.length))) fun (e, b, w) => wdB e w
def D2' : List (Nat × FSpec) := (89, sThIdx) :: D2
theorem D2'_ok : GOK Tryz.prog (tab D2') := gok_cons ThIdx_ok D2_ok
set_option maxHeartbeats 4000000 in
set_option maxRecDepth 100000 in
theorem ThCont_ok : Meets Tryz.prog 39 sThCont := by
  refine meets_lent 1 D2'_ok rfl [] (fn := Tryz.f39) rfl rfl rfl (by decide) (fun _ => rfl) (fun _ => rfl) (by decide) fun ⟨e, b, w⟩ ⟨hb, hpre⟩ => ?_
  have hb : b.length ≤ 1000000 := hb
  have hi := idxW_any (badT w.th.length) b 0
  repeat' (first | exact @id (emp _ = true) | (intro h; first | exact Bool.noConfusion h | (simp only [Qn] at h) | skip) | ((conv => whnf) <;> (first | exact trivial | apply Qa | apply And.intro | apply Qb | apply Qc | apply Qd | apply Qe | apply Qf | apply Qg | apply Qh | apply Qi | exact QA | exact QP | refine QG ?_ | apply Qj | apply Qk | apply Ql | apply Qm | apply Qo | apply Qp | apply Qw | apply Qv | apply Qu | apply Qt | apply Qs | apply Qr | apply Qq | apply Qx | apply wrapS | apply Qy | (with_reducible exact lenNil) | apply Eq.refl)) | ((with_reducible first | apply Y1 | apply Y2 | apply Y3 | show blkEq _ _ _); conv => whnf))
  all_goals first
    | exact hb
    | exact ⟨hb, hpre⟩
    | exact hi.symm
    | exact (hpre _).1
    | exact (hpre _).2

    | trace_state
end Go.Eng
