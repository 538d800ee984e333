/- A part of the walks, and of the machine that proves them (MeA). -/
import Derived.Test.YtgahcoccodhkmaaDoorEngC
import Derived.Test.YtgahcoccodhkmaaDoorProg
set_option linter.unusedVariables false
set_option linter.unusedSimpArgs false
namespace Go.Eng
open Go Go.Proofs
abbrev intsS (l : List Int) : Cell := slC 1 encI l
def memC (ws ts : List Int) : List Cell := [intsS ws, intsS ts]
def okT (t w : Int) : Bool := decide (t = 0 ∧ w = 0 ∨ t = 1 ∨ t = 2)
/-- May a memory be? -/
def memR (ws ts : List Int) : Bool := decide (1 ≤ ws.length ∧ ws.length ≤ 160 ∧ ts.length = ws.length) && (List.range ts.length).all fun i => okT (ts.getD i default) (ws.getD i default)
theorem memR_iff {ws ts : List Int} : memR ws ts = true ↔ 1 ≤ ws.length ∧ ws.length ≤ 160 ∧ ts.length = ws.length ∧ ∀ i, i < ts.length → okT (ts.getD i default) (ws.getD i default) = true := by
  simp only [memR, Bool.and_eq_true, decide_eq_true_eq, List.all_eq_true, List.mem_range]
  constructor
  · rintro ⟨⟨h1, h2, h3⟩, h4⟩; exact ⟨h1, h2, h3, h4⟩
  · rintro ⟨h1, h2, h3, h4⟩; exact ⟨⟨h1, h2, h3⟩, h4⟩
theorem memR_false {ws ts : List Int} {i : Nat} (hi : i < ts.length) (h : okT (ts.getD i default) (ws.getD i default) = false) : memR ws ts = false := by
  cases hm : memR ws ts with
  | false => rfl
  | true => have := (memR_iff.1 hm).2.2.2 i hi; rw [h] at this; cases this
theorem memR_len {ws ts : List Int} (h : ¬ (1 ≤ ws.length ∧ ws.length ≤ 160 ∧ ts.length = ws.length)) : memR ws ts = false := by
  cases hm : memR ws ts with
  | false => rfl
  | true => have := memR_iff.1 hm; exact (h ⟨this.1, this.2.1, this.2.2.1⟩).elim
theorem okT_true {t w : Int} : okT t w = true ↔ (t = 0 ∧ w = 0 ∨ t = 1 ∨ t = 2) := by simp [okT]
theorem okT_false {t w : Int} : okT t w = false ↔ ¬ (t = 0 ∧ w = 0 ∨ t = 1 ∨ t = 2) := by simp [okT]
def sMemRight : FSpec := spec (List Int × List Int) (fun (ws, ts) => [.agg (memC ws ts)]) (fun _ => True) fun (ws, ts) => .b (memR ws ts)
def sRRight : FSpec := sMemRight
set_option maxHeartbeats 4000000 in
set_option maxRecDepth 100000 in
theorem memRight_ok : Meets Tryd.prog 33 sMemRight := by
  refine meets_plain (gok_nil _) rfl [] (fn := Tryd.f33) rfl rfl rfl (by decide) fun ⟨ws, ts⟩ _ => ?_
  repeat' (first | exact @id (emp _ = true) | (intro h; first | exact Bool.noConfusion h | (simp only [Qn] at h) | skip) | ((conv => whnf) <;> (first | exact trivial | apply Qa | apply And.intro | apply Qb | apply Qc | apply Qd | apply Qe | apply Qf | apply Qg | apply Qh | apply Qi | exact QA | exact QP | refine QG ?_ | apply Qj | apply Qk | apply Ql | apply Qm | apply Qo | apply Qp | apply Qw | apply Qv | apply Qu | apply Qt | apply Qs | apply Qr | apply Qq | apply Qx | apply wrapS | apply Qy | (with_reducible exact lenNil) | apply Eq.refl)) | ((with_reducible first | apply Y1 | apply Y2 | apply Y3 | show blkEq _ _ _); conv => whnf))
  all_goals try (rw [memR_len (by omega)])
  apply LoopP.up (G := Nat) (fun k => k ≤ ts.length ∧ Up k fun i => okT (ts.getD i default) (ws.getD i default) = true) [1, 25, 26, 27] (fun k => [(27, .i k)]) (fun _ => []) 1 (fun k => ts.length - k)
  apply And.intro
  · refine CutE.at 0 ?_
    repeat' (first | exact @id (emp _ = true) | (intro h; first | exact Bool.noConfusion h | (simp only [Qn] at h) | skip) | ((conv => whnf) <;> (first | exact trivial | apply Qa | apply And.intro | apply Qb | apply Qc | apply Qd | apply Qe | apply Qf | apply Qg | apply Qh | apply Qi | exact QA | exact QP | refine QG ?_ | apply Qj | apply Qk | apply Ql | apply Qm | apply Qo | apply Qp | apply Qw | apply Qv | apply Qu | apply Qt | apply Qs | apply Qr | apply Qq | apply Qx | apply wrapS | apply Qy | (with_reducible exact lenNil) | apply Eq.refl)) | ((with_reducible first | apply Y1 | apply Y2 | apply Y3 | show blkEq _ _ _); conv => whnf))
    all_goals try simp only [Int.toNat_natCast, Int.toNat_zero, ge_iff_le, gt_iff_lt, Int.ofNat_le, Int.ofNat_lt, Int.ofNat_inj] at *
    all_goals first
      | omega
      | (dsimp only; omega)
      | assumption
      | exact Up.zero _
      | (show ((8 : Nat) : Int) * _ ≤ _; omega)
      | (show _ * (8 : Nat) ≤ _; omega)
      | (show _ * (16 : Nat) ≤ _; omega)
      | (show _ * (24 : Nat) ≤ _; omega)
      | trace_state
  · intro k ⟨hk, hok⟩
    repeat' (first | exact @id (emp _ = true) | (intro h; first | exact Bool.noConfusion h | (simp only [Qn] at h) | skip) | ((conv => whnf) <;> (first | exact trivial | apply Qa | apply And.intro | apply Qb | apply Qc | apply Qd | apply Qe | apply Qf | apply Qg | apply Qh | apply Qi | exact QA | exact QP | refine QG ?_ | apply Qj | apply Qk | apply Ql | apply Qm | apply Qo | apply Qp | apply Qw | apply Qv | apply Qu | apply Qt | apply Qs | apply Qr | apply Qq | apply Qx | apply wrapS | apply Qy | (with_reducible exact lenNil) | apply Eq.refl)) | ((with_reducible first | apply Y1 | apply Y2 | apply Y3 | show blkEq _ _ _); conv => whnf))
    all_goals try simp only [Int.toNat_natCast, Int.toNat_zero, ge_iff_le, gt_iff_lt, Int.ofNat_le, Int.ofNat_lt, Int.ofNat_inj] at *
    all_goals first
      | omega
      | (dsimp only; omega)
      | assumption
      | exact Up.zero _
      | (show ((8 : Nat) : Int) * _ ≤ _; omega)
      | (show _ * (8 : Nat) ≤ _; omega)
      | (show _ * (16 : Nat) ≤ _; omega)
      | (show _ * (24 : Nat) ≤ _; omega)
      | exact memR_false (i := k) (by omega) (okT_false.2 (by omega))
      | exact hok.succ (okT_true.2 (by omega))
      | exact memR_iff.2 ⟨by omega, by omega, by omega, fun i hi => hok.get i (by omega)⟩
      | trace_state
def whyF (t : Int) : Int := if t = 0 then 4 else if t = 1 then 0 else 5
def useF (ws ts : List Int) (at' : Int) : Int := if memR ws ts = true then (if at' < 0 ∨ ws.length ≤ at' then 3 else whyF (ts.getD at'.toNat default)) else 1
def loadF (ws ts : List Int) (at' : Int) : Int × Int := if useF ws ts at' = 0 then (ws.getD at'.toNat default, 0) else (0, useF ws ts at')
def storeF (ws ts : List Int) (at' v : Int) : (List Int × List Int) × Int := if useF ws ts at' = 0 then ((ws.set at'.toNat v, ts), 0) else (([], []), useF ws ts at')
def newF (n : Int) : (List Int × List Int) × Int := if n < 1 ∨ 160 < n then (([], []), 2) else ((List.replicate n.toNat 0, List.replicate n.toNat 0), 0)
def rMem (p : List Int × List Int) : Sv := .agg (memC p.1 p.2)
def rMemE (p : (List Int × List Int) × Int) : RV := .tup [rMem p.1, .c (.i p.2)]
theorem memR_tag {ws ts : List Int} (h : memR ws ts = true) {a : Int} (h0 : ¬ (a < 0 ∨ ws.length ≤ a)) : a.toNat < ws.length ∧ a.toNat < ts.length ∧ 0 ≤ ts.getD a.toNat default ∧ ts.getD a.toNat default ≤ 2 := by
  obtain ⟨h1, h2, h3, h4⟩ := memR_iff.1 h
  have := okT_true.1 (h4 a.toNat (by omega))
  omega
theorem useF_ok {ws ts : List Int} {a : Int} : useF ws ts a = 0 ↔ memR ws ts = true ∧ 0 ≤ a ∧ a < ws.length ∧ ts.getD a.toNat default = 1 := by
  unfold useF whyF
  constructor
  · intro h
    split at h
    · split at h
      · omega
      · split at h
        · omega
        · split at h
          · rename_i h0 h1 h2 h3; exact ⟨h0, by omega, by omega, h3⟩
          · omega
    · omega
  · rintro ⟨h1, h2, h3, h4⟩
    rw [if_pos h1, if_neg (by omega), h4]; rfl
def sWhy : FSpec := spec Int (fun t => [.i t]) (fun t => 0 ≤ t ∧ t ≤ 2) fun t => .i (whyF t)
def sUse : FSpec := spec (List Int × List Int × Int) (fun (ws, ts, a) => [.agg (memC ws ts), .i a]) (fun _ => True) fun (ws, ts, a) => .i (useF ws ts a)
def sCopied : FSpec := lentSpec 0 (List Int) (fun l => [.c (intsS l)]) (fun _ => []) (fun l => l.length ≤ 1000000) (fun _ => .c (.osl 0)) fun l => [.slc 3 1 l.length (slG encI l)]
def sLoad : FSpec := spec (List Int × List Int × Int) (fun (ws, ts, a) => [.agg (memC ws ts), .i a]) (fun _ => True) fun (ws, ts, a) => .tup [.c (.i (loadF ws ts a).1), .c (.i (loadF ws ts a).2)]
def sStore : FSpec := spec (List Int × List Int × Int × Int) (fun (ws, ts, a, v) => [.agg (memC ws ts), .i a, .i v]) (fun _ => True) fun (ws, ts, a, v) => rMemE (storeF ws ts a v)
def sNew : FSpec := spec Int (fun n => [.i n]) (fun _ => True) fun n => rMemE (newF n)
set_option maxHeartbeats 4000000 in
set_option maxRecDepth 100000 in
theorem why_ok : Meets Tryd.prog 35 sWhy := by
  refine meets_plain (gok_nil _) rfl [] (fn := Tryd.f35) rfl rfl rfl (by decide) fun t ⟨h1, h2⟩ => ?_
  repeat' (first | exact @id (emp _ = true) | (intro h; first | exact Bool.noConfusion h | (simp only [Qn] at h) | skip) | ((conv => whnf) <;> (first | exact trivial | apply Qa | apply And.intro | apply Qb | apply Qc | apply Qd | apply Qe | apply Qf | apply Qg | apply Qh | apply Qi | exact QA | exact QP | refine QG ?_ | apply Qj | apply Qk | apply Ql | apply Qm | apply Qo | apply Qp | apply Qw | apply Qv | apply Qu | apply Qt | apply Qs | apply Qr | apply Qq | apply Qx | apply wrapS | apply Qy | (with_reducible exact lenNil) | apply Eq.refl)) | ((with_reducible first | apply Y1 | apply Y2 | apply Y3 | show blkEq _ _ _); conv => whnf))
  all_goals try simp only [Int.toNat_natCast, Int.toNat_zero, ge_iff_le, gt_iff_lt, Int.ofNat_le, Int.ofNat_lt, Int.ofNat_inj] at *
  all_goals first
    | omega
    | (dsimp only; omega)
    | assumption
    | exact Up.zero _
    | (show ((8 : Nat) : Int) * _ ≤ _; omega)
    | (show _ * (8 : Nat) ≤ _; omega)
    | (show _ * (16 : Nat) ≤ _; omega)
    | (show _ * (24 : Nat) ≤ _; omega)
    | (rcases (by omega : t = 0 ∨ t = 1 ∨ t = 2) with rfl | rfl | rfl <;> rfl)
    | trace_state
def M1 : List (Nat × FSpec) := (33, sMemRight) :: (35, sWhy) :: []
theorem M1_ok : GOK Tryd.prog (tab M1) := gok_cons memRight_ok (gok_cons why_ok ((gok_nil _)))
set_option maxHeartbeats 4000000 in
set_option maxRecDepth 100000 in
theorem use_ok : Meets Tryd.prog 57 sUse := by
  refine meets_plain M1_ok rfl [] (fn := Tryd.f57) rfl rfl rfl (by decide) fun ⟨ws, ts, a⟩ _ => ?_
  repeat' (first | exact @id (emp _ = true) | (intro h; first | exact Bool.noConfusion h | (simp only [Qn] at h) | skip) | ((conv => whnf) <;> (first | exact trivial | apply Qa | apply And.intro | apply Qb | apply Qc | apply Qd | apply Qe | apply Qf | apply Qg | apply Qh | apply Qi | exact QA | exact QP | refine QG ?_ | apply Qj | apply Qk | apply Ql | apply Qm | apply Qo | apply Qp | apply Qw | apply Qv | apply Qu | apply Qt | apply Qs | apply Qr | apply Qq | apply Qx | apply wrapS | apply Qy | (with_reducible exact lenNil) | apply Eq.refl)) | ((with_reducible first | apply Y1 | apply Y2 | apply Y3 | show blkEq _ _ _); conv => whnf))
  all_goals try simp only [Int.toNat_natCast, Int.toNat_zero, ge_iff_le, gt_iff_lt, Int.ofNat_le, Int.ofNat_lt, Int.ofNat_inj] at *
  all_goals first
    | omega
    | (dsimp only; omega)
    | assumption
    | exact Up.zero _
    | (show ((8 : Nat) : Int) * _ ≤ _; omega)
    | (show _ * (8 : Nat) ≤ _; omega)
    | (show _ * (16 : Nat) ≤ _; omega)
    | (show _ * (24 : Nat) ≤ _; omega)
    | (simp [useF, *]; done)
    | (have := memR_tag (by assumption) (a := a) (by omega); omega)
    | (unfold useF; simp only [*]; rw [if_pos rfl]; first | rw [if_pos (by omega)] | rw [if_neg (by omega)])
    | trace_state
set_option maxHeartbeats 4000000 in
set_option maxRecDepth 100000 in
theorem copied_ok : Meets Tryd.prog 34 sCopied := by
  refine meets_lent 1 M1_ok rfl [] (fn := Tryd.f34) rfl rfl rfl (by decide) (fun _ => rfl) (fun _ => rfl) (by decide) fun l hl => ?_
  have hl : l.length ≤ 1000000 := hl
  repeat' (first | exact @id (emp _ = true) | (intro h; first | exact Bool.noConfusion h | (simp only [Qn] at h) | skip) | ((conv => whnf) <;> (first | exact trivial | apply Qa | apply And.intro | apply Qb | apply Qc | apply Qd | apply Qe | apply Qf | apply Qg | apply Qh | apply Qi | exact QA | exact QP | refine QG ?_ | apply Qj | apply Qk | apply Ql | apply Qm | apply Qo | apply Qp | apply Qw | apply Qv | apply Qu | apply Qt | apply Qs | apply Qr | apply Qq | apply Qx | apply wrapS | apply Qy | (with_reducible exact lenNil) | apply Eq.refl)) | ((with_reducible first | apply Y1 | apply Y2 | apply Y3 | show blkEq _ _ _); conv => whnf))
  all_goals try simp only [Int.toNat_natCast, Int.toNat_zero, ge_iff_le, gt_iff_lt, Int.ofNat_le, Int.ofNat_lt, Int.ofNat_inj] at *
  all_goals first
    | omega
    | (dsimp only; omega)
    | assumption
    | exact Up.zero _
    | (show ((8 : Nat) : Int) * _ ≤ _; omega)
    | (show _ * (8 : Nat) ≤ _; omega)
    | (show _ * (16 : Nat) ≤ _; omega)
    | (show _ * (24 : Nat) ≤ _; omega)
    | trace_state
def M2 : List (Nat × FSpec) := (57, sUse) :: (34, sCopied) :: M1
theorem M2_ok : GOK Tryd.prog (tab M2) := gok_cons use_ok (gok_cons copied_ok M1_ok)
set_option maxHeartbeats 4000000 in
set_option maxRecDepth 100000 in
theorem load_ok : Meets Tryd.prog 60 sLoad := by
  refine meets_plain M2_ok rfl [] (fn := Tryd.f60) rfl rfl rfl (by decide) fun ⟨ws, ts, a⟩ _ => ?_
  repeat' (first | exact @id (emp _ = true) | (intro h; first | exact Bool.noConfusion h | (simp only [Qn] at h) | skip) | ((conv => whnf) <;> (first | exact trivial | apply Qa | apply And.intro | apply Qb | apply Qc | apply Qd | apply Qe | apply Qf | apply Qg | apply Qh | apply Qi | exact QA | exact QP | refine QG ?_ | apply Qj | apply Qk | apply Ql | apply Qm | apply Qo | apply Qp | apply Qw | apply Qv | apply Qu | apply Qt | apply Qs | apply Qr | apply Qq | apply Qx | apply wrapS | apply Qy | (with_reducible exact lenNil) | apply Eq.refl)) | ((with_reducible first | apply Y1 | apply Y2 | apply Y3 | show blkEq _ _ _); conv => whnf))
  all_goals try simp only [Int.toNat_natCast, Int.toNat_zero, ge_iff_le, gt_iff_lt, Int.ofNat_le, Int.ofNat_lt, Int.ofNat_inj] at *
  all_goals first
    | omega
    | (dsimp only; omega)
    | assumption
    | exact Up.zero _
    | (show ((8 : Nat) : Int) * _ ≤ _; omega)
    | (show _ * (8 : Nat) ≤ _; omega)
    | (show _ * (16 : Nat) ≤ _; omega)
    | (show _ * (24 : Nat) ≤ _; omega)
    | (simp [loadF, *]; done)
    | (have := useF_ok.1 (by assumption); omega)
    | trace_state
set_option maxHeartbeats 4000000 in
set_option maxRecDepth 100000 in
theorem store_ok : Meets Tryd.prog 41 sStore := by
  refine meets_plain M2_ok rfl [] (fn := Tryd.f41) rfl rfl rfl (by decide) fun ⟨ws, ts, a, v⟩ _ => ?_
  repeat' (first | exact @id (emp _ = true) | (intro h; first | exact Bool.noConfusion h | (simp only [Qn] at h) | skip) | ((conv => whnf) <;> (first | exact trivial | apply Qa | apply And.intro | apply Qb | apply Qc | apply Qd | apply Qe | apply Qf | apply Qg | apply Qh | apply Qi | exact QA | exact QP | refine QG ?_ | apply Qj | apply Qk | apply Ql | apply Qm | apply Qo | apply Qp | apply Qw | apply Qv | apply Qu | apply Qt | apply Qs | apply Qr | apply Qq | apply Qx | apply wrapS | apply Qy | (with_reducible exact lenNil) | apply Eq.refl)) | ((with_reducible first | apply Y1 | apply Y2 | apply Y3 | show blkEq _ _ _); conv => whnf))
  all_goals try simp only [Int.toNat_natCast, Int.toNat_zero, ge_iff_le, gt_iff_lt, Int.ofNat_le, Int.ofNat_lt, Int.ofNat_inj] at *
  all_goals first
    | omega
    | (dsimp only; omega)
    | assumption
    | exact Up.zero _
    | (show ((8 : Nat) : Int) * _ ≤ _; omega)
    | (show _ * (8 : Nat) ≤ _; omega)
    | (show _ * (16 : Nat) ≤ _; omega)
    | (show _ * (24 : Nat) ≤ _; omega)
    | (simp [storeF, *]; done)
    | (have := useF_ok.1 (by assumption); omega)
    | (have hu := useF_ok.1 (by assumption); have := memR_iff.1 hu.1; show ws.length ≤ 1000000; omega)
    | (have hu := useF_ok.1 (by assumption); rw [show storeF ws ts a v = ((ws.set a.toNat v, ts), 0) by simp [storeF, *]] at *; exact slG_set1 (by omega) (by assumption) (by assumption))
    | trace_state
set_option maxHeartbeats 4000000 in
set_option maxRecDepth 100000 in
theorem new_ok : Meets Tryd.prog 14 sNew := by
  refine meets_plain M2_ok rfl [] (fn := Tryd.f14) rfl rfl rfl (by decide) fun n _ => ?_
  repeat' (first | exact @id (emp _ = true) | (intro h; first | exact Bool.noConfusion h | (simp only [Qn] at h) | skip) | ((conv => whnf) <;> (first | exact trivial | apply Qa | apply And.intro | apply Qb | apply Qc | apply Qd | apply Qe | apply Qf | apply Qg | apply Qh | apply Qi | exact QA | exact QP | refine QG ?_ | apply Qj | apply Qk | apply Ql | apply Qm | apply Qo | apply Qp | apply Qw | apply Qv | apply Qu | apply Qt | apply Qs | apply Qr | apply Qq | apply Qx | apply wrapS | apply Qy | (with_reducible exact lenNil) | apply Eq.refl)) | ((with_reducible first | apply Y1 | apply Y2 | apply Y3 | show blkEq _ _ _); conv => whnf))
  all_goals try simp only [Int.toNat_natCast, Int.toNat_zero, ge_iff_le, gt_iff_lt, Int.ofNat_le, Int.ofNat_lt, Int.ofNat_inj] at *
  all_goals first
    | omega
    | (dsimp only; omega)
    | assumption
    | exact Up.zero _
    | (show ((8 : Nat) : Int) * _ ≤ _; omega)
    | (show _ * (8 : Nat) ≤ _; omega)
    | (show _ * (16 : Nat) ≤ _; omega)
    | (show _ * (24 : Nat) ≤ _; omega)
    | (simp [newF, *]; done)
    | (unfold newF; rw [if_pos (by omega)]; rfl)
    | (unfold newF; rw [if_neg (by omega)]; simp; done)
    | (rw [show newF n = ((List.replicate n.toNat 0, List.replicate n.toNat 0), 0) by unfold newF; rw [if_neg (by omega)]] at *; simp only [List.length_replicate] at *; exact slG_rep1 (by assumption) (by assumption))
    | trace_state
end Go.Eng
namespace Go.Eng
open Go Go.Proofs
def markE (tag t : Int) : Int := if tag = 1 then (if t = 1 then 6 else 0) else whyF t
def markN (tag : Int) : List Int → Nat → Nat → List Int × Int
  | ts, _, 0 => (ts, 0)
  | ts, p, n + 1 => if markE tag (ts.getD p default) = 0 then markN tag (ts.set p tag) (p + 1) n else ([], markE tag (ts.getD p default))
def markF (ws ts : List Int) (a n tag : Int) : (List Int × List Int) × Int :=
  if memR ws ts = true ∧ (tag = 1 ∨ tag = 2) then (if n < 1 ∨ a < 0 ∨ ws.length ≤ a ∨ ws.length - a < n then (([], []), 3) else
    if (markN tag ts a.toNat n.toNat).2 = 0 then ((ws, (markN tag ts a.toNat n.toNat).1), 0) else (([], []), (markN tag ts a.toNat n.toNat).2)) else (([], []), 1)
def withF (l : List Int) (a v : Int) : List Int := if 0 ≤ a then l.set a.toNat v else l
def sameF (a b c d : List Int) : Bool := decide (a = c ∧ b = d)
def sInts : FSpec := spec (List Int × List Int) (fun (a, b) => [.c (intsS a), .c (intsS b)]) (fun (a, b) => a.length ≤ 1000000) fun (a, b) => .b (decide (a = b))
def sWith : FSpec := spec (List Int × Int × Int) (fun (l, a, v) => [.c (intsS l), .i a, .i v]) (fun (l, _, _) => l.length ≤ 1000000) fun (l, a, v) => .c (intsS (withF l a v))
def sRLoad : FSpec := spec (List Int × List Int × Int) (fun (ws, ts, a) => [.agg (memC ws ts), .i a]) (fun (ws, ts, a) => memR ws ts = true) fun (ws, ts, a) => .tup [.c (.i (loadF ws ts a).1), .c (.i (loadF ws ts a).2)]
def sRStore : FSpec := spec (List Int × List Int × Int × Int) (fun (ws, ts, a, v) => [.agg (memC ws ts), .i a, .i v]) (fun (ws, ts, a, v) => memR ws ts = true) fun (ws, ts, a, v) => rMemE (storeF ws ts a v)
def sMark : FSpec := spec (List Int × List Int × Int × Int × Int) (fun (ws, ts, a, n, tag) => [.agg (memC ws ts), .i a, .i n, .i tag]) (fun _ => True) fun (ws, ts, a, n, tag) => rMemE (markF ws ts a n tag)
def sRMark : FSpec := spec (List Int × List Int × Int × Int × Int) (fun (ws, ts, a, n, tag) => [.agg (memC ws ts), .i a, .i n, .i tag]) (fun (ws, ts, a, n, tag) => memR ws ts = true ∧ (tag = 1 ∨ tag = 2)) fun (ws, ts, a, n, tag) => rMemE (markF ws ts a n tag)
def cntF (t : Int) (l : List Int) : Int := (l.count t : Nat)
def cntM (ws ts : List Int) (t : Int) : Int := if memR ws ts = true then cntF t ts else 0
def sCount : FSpec := spec (List Int × List Int) (fun (ws, ts) => [.agg (memC ws ts)]) (fun _ => True) fun (ws, ts) => .tup [.agg [.i (cntM ws ts 0), .i (cntM ws ts 1), .i (cntM ws ts 2)], .c (.i (if memR ws ts = true then 0 else 1))]
def sRCount : FSpec := spec (List Int × List Int × Int) (fun (ws, ts, t) => [.agg (memC ws ts), .i t]) (fun (ws, ts, t) => ts.length ≤ 1000000) fun (ws, ts, t) => .i (cntF t ts)
def sRNew : FSpec := spec Int (fun n => [.i n]) (fun n => 1 ≤ n ∧ n ≤ 160) fun n => .s (rMem (newF n).1)
def sSame : FSpec := spec (List Int × List Int × List Int × List Int) (fun (a, b, c, d) => [.agg (memC a b), .agg (memC c d)]) (fun (a, b, c, d) => a.length ≤ 1000000 ∧ b.length ≤ 1000000) fun (a, b, c, d) => .b (sameF a b c d)
def sMem : FSpec := spec (List Int × List Int) (fun (a, b) => [.c (intsS a), .c (intsS b)]) (fun _ => True) fun (a, b) => .s (rMem (a.take 170, b.take 170))
theorem getD_ne {a b : List Int} (h : a.length = b.length) {i : Nat} (hi : i < a.length) (hne : ¬ a.getD i default = b.getD i default) : decide (a = b) = false := by
  simp only [decide_eq_false_iff_not]
  rintro rfl
  exact hne rfl
theorem eq_of_up {a b : List Int} (h : a.length = b.length) {k : Nat} (hk : a.length ≤ k) (hu : Up k fun i => a.getD i default = b.getD i default) : decide (a = b) = true := by
  simp only [decide_eq_true_eq]
  apply List.ext_getElem h
  intro i h1 h2
  have := hu.get i (by omega)
  simpa [List.getD_eq_getElem?_getD, List.getElem?_eq_getElem h1, List.getElem?_eq_getElem h2] using this
set_option maxHeartbeats 4000000 in
set_option maxRecDepth 100000 in
theorem ints_ok : Meets Tryd.prog 26 sInts := by
  refine meets_plain (gok_nil _) rfl [] (fn := Tryd.f26) rfl rfl rfl (by decide) fun ⟨a, b⟩ hl => ?_
  have hl : a.length ≤ 1000000 := hl
  repeat' (first | exact @id (emp _ = true) | (intro h; first | exact Bool.noConfusion h | (simp only [Qn] at h) | skip) | ((conv => whnf) <;> (first | exact trivial | apply Qa | apply And.intro | apply Qb | apply Qc | apply Qd | apply Qe | apply Qf | apply Qg | apply Qh | apply Qi | exact QA | exact QP | refine QG ?_ | apply Qj | apply Qk | apply Ql | apply Qm | apply Qo | apply Qp | apply Qw | apply Qv | apply Qu | apply Qt | apply Qs | apply Qr | apply Qq | apply Qx | apply wrapS | apply Qy | (with_reducible exact lenNil) | apply Eq.refl)) | ((with_reducible first | apply Y1 | apply Y2 | apply Y3 | show blkEq _ _ _); conv => whnf))
  · simp only [false_eq_decide_iff, decide_eq_false_iff_not]
    rintro rfl
    exact absurd rfl (by assumption)
  apply LoopP.up (G := Nat) (fun k => k ≤ a.length ∧ Up k fun i => a.getD i default = b.getD i default) [0, 1, 12, 13] (fun k => [(13, .i k)]) (fun _ => []) 0 (fun k => a.length - k)
  apply And.intro
  · refine CutE.at 0 ?_
    repeat' (first | exact @id (emp _ = true) | (intro h; first | exact Bool.noConfusion h | (simp only [Qn] at h) | skip) | ((conv => whnf) <;> (first | exact trivial | apply Qa | apply And.intro | apply Qb | apply Qc | apply Qd | apply Qe | apply Qf | apply Qg | apply Qh | apply Qi | exact QA | exact QP | refine QG ?_ | apply Qj | apply Qk | apply Ql | apply Qm | apply Qo | apply Qp | apply Qw | apply Qv | apply Qu | apply Qt | apply Qs | apply Qr | apply Qq | apply Qx | apply wrapS | apply Qy | (with_reducible exact lenNil) | apply Eq.refl)) | ((with_reducible first | apply Y1 | apply Y2 | apply Y3 | show blkEq _ _ _); conv => whnf))
    all_goals try simp only [Int.toNat_natCast, Int.toNat_zero, ge_iff_le, gt_iff_lt, Int.ofNat_le, Int.ofNat_lt, Int.ofNat_inj] at *
    all_goals first
      | omega
      | (dsimp only; omega)
      | assumption
      | exact Up.zero _
      | (show ((8 : Nat) : Int) * _ ≤ _; omega)
      | (show _ * (8 : Nat) ≤ _; omega)
      | (show _ * (16 : Nat) ≤ _; omega)
      | (show _ * (24 : Nat) ≤ _; omega)
      | trace_state
  · intro k ⟨hk, hu⟩
    repeat' (first | exact @id (emp _ = true) | (intro h; first | exact Bool.noConfusion h | (simp only [Qn] at h) | skip) | ((conv => whnf) <;> (first | exact trivial | apply Qa | apply And.intro | apply Qb | apply Qc | apply Qd | apply Qe | apply Qf | apply Qg | apply Qh | apply Qi | exact QA | exact QP | refine QG ?_ | apply Qj | apply Qk | apply Ql | apply Qm | apply Qo | apply Qp | apply Qw | apply Qv | apply Qu | apply Qt | apply Qs | apply Qr | apply Qq | apply Qx | apply wrapS | apply Qy | (with_reducible exact lenNil) | apply Eq.refl)) | ((with_reducible first | apply Y1 | apply Y2 | apply Y3 | show blkEq _ _ _); conv => whnf))
    all_goals try simp only [Int.toNat_natCast, Int.toNat_zero, ge_iff_le, gt_iff_lt, Int.ofNat_le, Int.ofNat_lt, Int.ofNat_inj] at *
    all_goals first
      | omega
      | (dsimp only; omega)
      | assumption
      | exact Up.zero _
      | (show ((8 : Nat) : Int) * _ ≤ _; omega)
      | (show _ * (8 : Nat) ≤ _; omega)
      | (show _ * (16 : Nat) ≤ _; omega)
      | (show _ * (24 : Nat) ≤ _; omega)
      | exact hu.succ (by assumption)
      | exact getD_ne (by omega) (i := k) (by omega) (by assumption)
      | exact eq_of_up (by omega) (k := k) (by omega) hu
      | trace_state
theorem withF_len (l : List Int) (a v : Int) : (withF l a v).length = l.length := by unfold withF; split <;> simp
theorem withF_at {l : List Int} {a v : Int} {k : Nat} (hk : k < l.length) (h : (k : Int) = a) : (withF l a v).getD k default = v := by
  subst h
  simp [withF, List.getD_eq_getElem?_getD, hk]
theorem withF_ne {l : List Int} {a v : Int} {k : Nat} (h : ¬ (k : Int) = a) : (withF l a v).getD k default = l.getD k default := by
  unfold withF
  split
  · simp only [List.getD_eq_getElem?_getD]
    rw [List.getElem?_set_ne (by omega)]
  · rfl
def M3 : List (Nat × FSpec) := (26, sInts) :: M2
theorem M3_ok : GOK Tryd.prog (tab M3) := gok_cons ints_ok (M2_ok)
theorem loadF_use (ws ts : List Int) (a : Int) : (loadF ws ts a).2 = useF ws ts a := by
  unfold loadF
  split
  · rename_i h; exact h.symm
  · rfl
end Go.Eng
