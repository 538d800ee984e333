/- A part of the walks, and of the machine that proves them (TsB). -/
import Derived.Test.YtgahcoccodhkmaaGreatTsA
set_option linter.unusedVariables false
set_option linter.unusedSimpArgs false
namespace Go.Eng
open Go Go.Proofs
theorem any_up {n : Nat} {b : List Put} {j : Nat} (hj : b.length ≤ j) (h : Up j fun i => badP n (b.getD i default) = false) : b.any (badP n) = false := by
  rw [List.any_eq_false]
  intro p hp
  obtain ⟨i, hi, rfl⟩ := List.getElem_of_mem hp
  have := h.get i (by omega)
  rw [List.getD_eq_getElem?_getD, List.getElem?_eq_getElem hi] at this
  simpa using this
theorem any_at {n : Nat} {b : List Put} {j : Nat} (hj : j < b.length) (h : badP n (b.getD j default) = true) : b.any (badP n) = true := by
  rw [List.any_eq_true]
  refine ⟨b[j], List.getElem_mem hj, ?_⟩
  rw [List.getD_eq_getElem?_getD, List.getElem?_eq_getElem hj] at h
  exact h
theorem badP_t {n : Nat} {p : Put} (h : p.1 < 0 ∨ (n : Int) ≤ p.1) : badP n p = true := decide_eq_true h
theorem badP_f {n : Nat} {p : Put} (h : ¬ (p.1 < 0 ∨ (n : Int) ≤ p.1)) : badP n p = false := decide_eq_false h
theorem okB_any {n : Nat} {d : Int} {b : List Put} (h : b.any (badP n) = true) : okB n d b = false := by rw [okB, h, Bool.not_true, Bool.and_false]
theorem okB_len {n : Nat} {d : Int} {b : List Put} (h : ¬ (b.length : Int) ≤ d) : okB n d b = false := by rw [okB, decide_eq_false h, Bool.false_and]
theorem okB_t {n : Nat} {d : Int} {b : List Put} (h : (b.length : Int) ≤ d) (h2 : b.any (badP n) = false) : okB n d b = true := by rw [okB, h2, decide_eq_true h]; rfl
set_option maxHeartbeats 4000000 in
set_option maxRecDepth 100000 in
theorem rtsoRight_ok : Meets Tryz.prog 35 sTsoRight := by
  refine meets_plain (gok_cons rsizes_ok M4_ok : GOK Tryz.prog (tab ((79, sSizes) :: M4))) rfl [] (fn := Tryz.f35) rfl rfl rfl (by decide) fun ⟨ws, ts, d, l⟩ ⟨hl, hlb⟩ => ?_
  repeat' (first | exact @id (emp _ = true) | (intro h; first | exact Bool.noConfusion h | (simp only [Qn] at h) | skip) | ((conv => whnf) <;> (first | exact trivial | apply Qa | apply And.intro | apply Qb | apply Qc | apply Qd | apply Qe | apply Qf | apply Qg | apply Qh | apply Qi | exact QA | exact QP | refine QG ?_ | apply Qj | apply Qk | apply Ql | apply Qm | apply Qo | apply Qp | apply Qw | apply Qv | apply Qu | apply Qt | apply Qs | apply Qr | apply Qq | apply Qx | apply wrapS | apply Qy | (with_reducible exact lenNil) | apply Eq.refl)) | ((with_reducible first | apply Y1 | apply Y2 | apply Y3 | show blkEq _ _ _); conv => whnf))
  · exact (tsoR_no fun h => Bool.noConfusion (h.1.symm.trans (by assumption)))
  · exact (tsoR_no fun h => Bool.noConfusion (h.2.1.symm.trans (by assumption)))
  have hm : memR ws ts = true := by assumption
  have hz : sizesF l.length d = true := by assumption
  apply LoopP.up (G := Nat) (fun k => k ≤ l.length ∧ Up k fun i => okB ws.length d (l.getD i default) = true) [1, 21, 22, 23] (fun k => [(23, .i k)]) (fun _ => []) 1 (fun k => l.length - k)
  apply And.intro
  · refine CutE.at 0 ?_
    repeat' (first | exact @id (emp _ = true) | (intro h; first | exact Bool.noConfusion h | (simp only [Qn] at h) | skip) | ((conv => whnf) <;> (first | exact trivial | apply Qa | apply And.intro | apply Qb | apply Qc | apply Qd | apply Qe | apply Qf | apply Qg | apply Qh | apply Qi | exact QA | exact QP | refine QG ?_ | apply Qj | apply Qk | apply Ql | apply Qm | apply Qo | apply Qp | apply Qw | apply Qv | apply Qu | apply Qt | apply Qs | apply Qr | apply Qq | apply Qx | apply wrapS | apply Qy | (with_reducible exact lenNil) | apply Eq.refl)) | ((with_reducible first | apply Y1 | apply Y2 | apply Y3 | show blkEq _ _ _); conv => whnf))
    all_goals try simp only [Int.toNat_natCast, Int.toNat_zero, ge_iff_le, gt_iff_lt, Int.ofNat_le, Int.ofNat_lt, Int.ofNat_inj] at *
    all_goals first
      | omega
      | (dsimp only; omega)
      | assumption
      | exact Up.zero _
      | (show ((8 : Nat) : Int) * _ ≤ _; omega)
      | (show _ * (8 : Nat) ≤ _; omega)
      | (show _ * (16 : Nat) ≤ _; omega)
      | (show _ * (24 : Nat) ≤ _; omega)
      | trace_state
  · intro k ⟨hk, hu⟩
    have hb := hlb k
    have hF : k < l.length → okB ws.length d (l.getD k default) = false → tsoR ws ts d l = false := fun h1 h2 => tsoR_no fun h => Bool.noConfusion ((h.2.2 k h1).symm.trans h2)
    repeat' (first | exact @id (emp _ = true) | (intro h; first | exact Bool.noConfusion h | (simp only [Qn] at h) | skip) | ((conv => whnf) <;> (first | exact trivial | apply Qa | apply And.intro | apply Qb | apply Qc | apply Qd | apply Qe | apply Qf | apply Qg | apply Qh | apply Qi | exact QA | exact QP | refine QG ?_ | apply Qj | apply Qk | apply Ql | apply Qm | apply Qo | apply Qp | apply Qw | apply Qv | apply Qu | apply Qt | apply Qs | apply Qr | apply Qq | apply Qx | apply wrapS | apply Qy | (with_reducible exact lenNil) | apply Eq.refl)) | ((with_reducible first | apply Y1 | apply Y2 | apply Y3 | show blkEq _ _ _); conv => whnf))
    all_goals try simp only [Int.toNat_natCast] at *
    all_goals try first
      | omega
      | (apply hF; · omega
         apply okB_len; omega)
      | exact tsoR_iff.2 ⟨hm, hz, fun i hi => hu.get i (by omega)⟩
    apply LoopP.up (G := Nat × Unit) (fun s => s.1 ≤ (l.getD k default).length ∧ Up s.1 fun i => badP ws.length ((l.getD k default).getD i default) = false) [1, 21, 22, 23, 32, 33, 34] (fun s => [(34, .i s.1)]) (fun _ => []) 1 (fun s => (l.getD k default).length - s.1)
    apply And.intro
    · refine CutE.at (0, ()) ?_
      repeat' (first | exact @id (emp _ = true) | (intro h; first | exact Bool.noConfusion h | (simp only [Qn] at h) | skip) | ((conv => whnf) <;> (first | exact trivial | apply Qa | apply And.intro | apply Qb | apply Qc | apply Qd | apply Qe | apply Qf | apply Qg | apply Qh | apply Qi | exact QA | exact QP | refine QG ?_ | apply Qj | apply Qk | apply Ql | apply Qm | apply Qo | apply Qp | apply Qw | apply Qv | apply Qu | apply Qt | apply Qs | apply Qr | apply Qq | apply Qx | apply wrapS | apply Qy | (with_reducible exact lenNil) | apply Eq.refl)) | ((with_reducible first | apply Y1 | apply Y2 | apply Y3 | show blkEq _ _ _); conv => whnf))
      all_goals try simp only [Int.toNat_natCast, Int.toNat_zero, ge_iff_le, gt_iff_lt, Int.ofNat_le, Int.ofNat_lt, Int.ofNat_inj] at *
      all_goals first
        | omega
        | (dsimp only; omega)
        | assumption
        | exact Up.zero _
        | (show ((8 : Nat) : Int) * _ ≤ _; omega)
        | (show _ * (8 : Nat) ≤ _; omega)
        | (show _ * (16 : Nat) ≤ _; omega)
        | (show _ * (24 : Nat) ≤ _; omega)
        | trace_state
    · rintro ⟨j, _⟩ ⟨hj, hv⟩
      have hj : j ≤ (l.getD k default).length := hj
      repeat' (first | exact @id (emp _ = true) | (intro h; first | exact Bool.noConfusion h | (simp only [Qn] at h) | skip) | ((conv => whnf) <;> (first | exact trivial | apply Qa | apply And.intro | refine CutE.at (A := Nat × Unit) (j + 1, ()) ?_ | refine CutE.at (A := Nat) (k + 1) ?_ | apply Qb | apply Qc | apply Qd | apply Qe | apply Qf | apply Qg | apply Qh | apply Qi | exact QA | exact QP | refine QG ?_ | apply Qj | apply Qk | apply Ql | apply Qm | apply Qo | apply Qp | apply Qw | apply Qv | apply Qu | apply Qt | apply Qs | apply Qr | apply Qq | apply Qx | apply wrapS | apply Qy | (with_reducible exact lenNil) | apply Eq.refl)) | ((with_reducible first | apply Y1 | apply Y2 | apply Y3 | show blkEq _ _ _); conv => whnf))
      all_goals try simp only [Int.toNat_natCast] at *
      all_goals first
        | omega
        | (apply hF
           · omega
           apply okB_any
           refine any_at (j := j) (by omega) ?_
           apply badP_t; omega)
        | (show (l.getD k default).length - (j + 1) < (l.getD k default).length - j; omega)
        | (show j + 1 ≤ (l.getD k default).length; omega)
        | (apply hv.succ; apply badP_f; omega)
        | (apply hu.succ
           refine okB_t (by omega) (any_up (j := j) (by omega) hv))
        | trace_state
def withB (l : List (List Put)) (i : Int) (b : List Put) : List (List Put) := if 0 ≤ i then l.set i.toNat b else l
theorem withB_len (l : List (List Put)) (a : Int) (v : List Put) : (withB l a v).length = l.length := by unfold withB; split <;> simp
theorem withB_at {l : List (List Put)} {a : Int} {v : List Put} {k : Nat} (hk : k < l.length) (h : (k : Int) = a) : (withB l a v).getD k default = v := by
  subst h
  simp [withB, List.getD_eq_getElem?_getD, hk]
theorem withB_ne {l : List (List Put)} {a : Int} {v : List Put} {k : Nat} (h : ¬ (k : Int) = a) : (withB l a v).getD k default = l.getD k default := by
  unfold withB
  split
  · simp only [List.getD_eq_getElem?_getD]
    rw [List.getElem?_set_ne (by omega)]
  · rfl
def sRWith : FSpec := spec (List (List Put) × Int × List Put) (fun (l, a, v) => [.c (bufsS l), .i a, .c (putsS v)]) (fun (l, _, _) => l.length ≤ 1000000) fun (l, a, v) => .c (bufsS (withB l a v))
set_option maxHeartbeats 4000000 in
set_option maxRecDepth 100000 in
theorem rwith_ok : Meets Tryz.prog 112 sRWith := by
  refine meets_plain (gok_nil _) rfl [] (fn := Tryz.f112) rfl rfl rfl (by decide) fun ⟨l, a, v⟩ hl => ?_
  have hl : l.length ≤ 1000000 := hl
  repeat' (first | exact @id (emp _ = true) | (intro h; first | exact Bool.noConfusion h | (simp only [Qn] at h) | skip) | ((conv => whnf) <;> (first | exact trivial | apply Qa | apply And.intro | apply Qb | apply Qc | apply Qd | apply Qe | apply Qf | apply Qg | apply Qh | apply Qi | exact QA | exact QP | refine QG ?_ | apply Qj | apply Qk | apply Ql | apply Qm | apply Qo | apply Qp | apply Qw | apply Qv | apply Qu | apply Qt | apply Qs | apply Qr | apply Qq | apply Qx | apply wrapS | apply Qy | (with_reducible exact lenNil) | apply Eq.refl)) | ((with_reducible first | apply Y1 | apply Y2 | apply Y3 | show blkEq _ _ _); conv => whnf))
  apply LoopP.up (G := Nat) (fun k => k ≤ l.length) [1, 2, 7, 11, 12, 13] (fun k => [(13, .i k)]) (fun k => [(0, .slc 45 1 k (slG bufE ((withB l a v).take k)))]) 1 (fun k => l.length - k)
  apply And.intro
  · refine CutE.at 0 ?_
    repeat' (first | exact @id (emp _ = true) | (intro h; first | exact Bool.noConfusion h | (simp only [Qn] at h) | skip) | ((conv => whnf) <;> (first | exact trivial | apply Qa | apply And.intro | apply Qb | apply Qc | apply Qd | apply Qe | apply Qf | apply Qg | apply Qh | apply Qi | exact QA | exact QP | refine QG ?_ | apply Qj | apply Qk | apply Ql | apply Qm | apply Qo | apply Qp | apply Qw | apply Qv | apply Qu | apply Qt | apply Qs | apply Qr | apply Qq | apply Qx | apply wrapS | apply Qy | (with_reducible exact lenNil) | apply Eq.refl)) | ((with_reducible first | apply Y1 | apply Y2 | apply Y3 | show blkEq _ _ _); conv => whnf))
    all_goals try simp only [Int.toNat_natCast, Int.toNat_zero, ge_iff_le, gt_iff_lt, Int.ofNat_le, Int.ofNat_lt, Int.ofNat_inj] at *
    all_goals first
      | omega
      | (dsimp only; omega)
      | assumption
      | exact Up.zero _
      | (show ((8 : Nat) : Int) * _ ≤ _; omega)
      | (show _ * (8 : Nat) ≤ _; omega)
      | (show _ * (16 : Nat) ≤ _; omega)
      | (show _ * (24 : Nat) ≤ _; omega)
      | trace_state
  · intro k hk
    have e0 : (k : Int).toNat = k := by omega
    repeat' (first | exact @id (emp _ = true) | (intro h; first | exact Bool.noConfusion h | (simp only [Qn] at h) | skip) | ((conv => whnf) <;> (first | exact trivial | apply Qa | apply And.intro | refine CutE.at (A := Nat) (k + 1) ?_ | apply Qb | apply Qc | apply Qd | apply Qe | apply Qf | apply Qg | apply Qh | apply Qi | exact QA | exact QP | refine QG ?_ | apply Qj | apply Qk | apply Ql | apply Qm | apply Qo | apply Qp | apply Qw | apply Qv | apply Qu | apply Qt | apply Qs | apply Qr | apply Qq | apply Qx | apply wrapS | apply Qy | (with_reducible exact lenNil) | apply Eq.refl)) | ((with_reducible first | apply Y1 | apply Y2 | apply Y3 | show blkEq _ _ _); conv => whnf))
    all_goals have hlen := withB_len l a v
    all_goals try simp only [e0] at *
    all_goals first
      | omega
      | (show (k + 1) * 24 ≤ _; omega)
      | (show l.length - (k + 1) < l.length - k; omega)
      | (refine slG_take1 (q := 1) (by omega) rfl (by assumption) (by assumption) ?_
         rw [withB_at (by omega) (by assumption)] <;> rfl)
      | (refine slG_take1 (q := 1) (by omega) rfl (by assumption) (by assumption) ?_
         rw [withB_ne (by assumption)] <;> rfl)
      | exact slG_all (by omega)
      | trace_state
end Go.Eng
namespace Go.Eng
open Go Go.Proofs
def R1 : List (Nat × FSpec) := (112, sRWith) :: (129, sRNewest) :: (130, sRPush) :: (113, sRRest) :: (98, sRSame) :: (35, sTsoRight) :: (79, sSizes) :: M4
theorem R1_ok : GOK Tryz.prog (tab R1) := gok_cons rwith_ok (gok_cons rnewest_ok (gok_cons rpush_ok (gok_cons rrest_ok (gok_cons rsame_ok (gok_cons rtsoRight_ok (gok_cons rsizes_ok M4_ok))))))
theorem hasF_mem {ws ts : List Int} {d : Int} {l : List (List Put)} {i : Int} (h : hasF ws ts d l i = true) : memR ws ts = true := (tsoR_iff.1 (hasF_iff.1 h).1).1
theorem hasF_sz {ws ts : List Int} {d : Int} {l : List (List Put)} {i : Int} (h : hasF ws ts d l i = true) : 0 ≤ d ∧ d ≤ 8 ∧ l.length ≤ 8 := by
  have := (tsoR_iff.1 (hasF_iff.1 h).1).2.1
  simp only [sizesF, decide_eq_true_eq] at this
  omega
theorem hasF_len {ws ts : List Int} {d : Int} {l : List (List Put)} {i : Int} (h : hasF ws ts d l i = true) : ((l.getD i.toNat default).length : Int) ≤ d := by
  obtain ⟨h1, h2, h3⟩ := hasF_iff.1 h
  have := (tsoR_iff.1 h1).2.2 i.toNat (by omega)
  simp only [okB, Bool.and_eq_true, decide_eq_true_eq] at this
  exact this.1
def sRTLoad : FSpec := spec (List Int × List Int × Int × List (List Put) × Int × Int) (fun (ws, ts, d, l, i, a) => [.agg (tsoC ws ts d l), .i i, .i a]) (fun (ws, ts, d, l, i, _) => hasF ws ts d l i = true) fun (ws, ts, d, l, i, a) => .tup [.c (.i (loadT (ws, ts, d, l) i a).1), .c (.i (loadT (ws, ts, d, l) i a).2)]
set_option maxHeartbeats 4000000 in
set_option maxRecDepth 100000 in
theorem rtload_ok : Meets Tryz.prog 108 sRTLoad := by
  refine meets_plain R1_ok rfl [] (fn := Tryz.f108) rfl rfl rfl (by decide) fun ⟨ws, ts, d, l, i, a⟩ hh => ?_
  have hh : hasF ws ts d l i = true := hh
  have h2 := (hasF_iff.1 hh).2
  have h3 := hasF_len hh
  have h4 := hasF_sz hh
  repeat' (first | exact @id (emp _ = true) | (intro h; first | exact Bool.noConfusion h | (simp only [Qn] at h) | skip) | ((conv => whnf) <;> (first | exact trivial | apply Qa | apply And.intro | apply Qb | apply Qc | apply Qd | apply Qe | apply Qf | apply Qg | apply Qh | apply Qi | exact QA | exact QP | refine QG ?_ | apply Qj | apply Qk | apply Ql | apply Qm | apply Qo | apply Qp | apply Qw | apply Qv | apply Qu | apply Qt | apply Qs | apply Qr | apply Qq | apply Qx | apply wrapS | apply Qy | (with_reducible exact lenNil) | apply Eq.refl)) | ((with_reducible first | apply Y1 | apply Y2 | apply Y3 | show blkEq _ _ _); conv => whnf))
  all_goals first
    | omega
    | exact hasF_mem hh
    | (show (l.getD i.toNat default).length ≤ 1000000; omega)
    | (simp only [loadT, *, ↓reduceIte, Bool.false_eq_true]; done)
    | ((simp only [loadT, *, ↓reduceIte, Bool.false_eq_true]) <;> rfl)
    | trace_state
def sDrop : FSpec := spec TsoI (fun (ws, ts, d, l, i) => [.agg (tsoC ws ts d l), .i i]) (fun (ws, ts, d, l, i) => hasF ws ts d l i = true) fun (ws, ts, d, l, i) => .s (rTso (ws, ts, d, l.set i.toNat ((l.getD i.toNat default).drop 1)))
set_option maxHeartbeats 4000000 in
set_option maxRecDepth 100000 in
theorem drop_ok : Meets Tryz.prog 64 sDrop := by
  refine meets_plain R1_ok rfl [] (fn := Tryz.f64) rfl rfl rfl (by decide) fun ⟨ws, ts, d, l, i⟩ hh => ?_
  have hh : hasF ws ts d l i = true := hh
  have h2 := (hasF_iff.1 hh).2
  have h3 := hasF_len hh
  have h4 := hasF_sz hh
  have hw : ∀ b, withB l i b = l.set i.toNat b := fun b => by rw [withB, if_pos h2.1]
  repeat' (first | exact @id (emp _ = true) | (intro h; first | exact Bool.noConfusion h | (simp only [Qn] at h) | skip) | ((conv => whnf) <;> (first | exact trivial | apply Qa | apply And.intro | apply Qb | apply Qc | apply Qd | apply Qe | apply Qf | apply Qg | apply Qh | apply Qi | exact QA | exact QP | refine QG ?_ | apply Qj | apply Qk | apply Ql | apply Qm | apply Qo | apply Qp | apply Qw | apply Qv | apply Qu | apply Qt | apply Qs | apply Qr | apply Qq | apply Qx | apply wrapS | apply Qy | (with_reducible exact lenNil) | apply Eq.refl)) | ((with_reducible first | apply Y1 | apply Y2 | apply Y3 | show blkEq _ _ _); conv => whnf))
  all_goals try simp only [hw] at *
  all_goals first
    | omega
    | rfl
    | (show (l.getD i.toNat default).length ≤ 1000000; omega)
    | (show l.length ≤ 1000000; omega)
    | trace_state
theorem push_here {b : List Put} {d : Int} {p : Put} (h : (b.length : Int) ≤ d) (h0 : 0 ≤ d ∧ d ≤ 8) : pushF b d p = if (b.length : Int) = d then ([], 7) else (b ++ [p], 0) := by
  rw [pushF, if_neg (by omega)]
def sRTStore : FSpec := spec (List Int × List Int × Int × List (List Put) × Int × Int × Int) (fun (ws, ts, d, l, i, a, v) => [.agg (tsoC ws ts d l), .i i, .i a, .i v]) (fun (ws, ts, d, l, i, _) => hasF ws ts d l i = true) fun (ws, ts, d, l, i, a, v) => .tup [rTso (storeT (ws, ts, d, l) i a v).1, .c (.i (storeT (ws, ts, d, l) i a v).2)]
set_option maxHeartbeats 4000000 in
set_option maxRecDepth 100000 in
theorem rtstore_ok : Meets Tryz.prog 109 sRTStore := by
  refine meets_plain R1_ok rfl [] (fn := Tryz.f109) rfl rfl rfl (by decide) fun ⟨ws, ts, d, l, i, a, v⟩ hh => ?_
  have hh : hasF ws ts d l i = true := hh
  have h2 := (hasF_iff.1 hh).2
  have h3 := hasF_len hh
  have h4 := hasF_sz hh
  have hw : ∀ b, withB l i b = l.set i.toNat b := fun b => by rw [withB, if_pos h2.1]
  have hp := push_here (p := (a, v)) h3 ⟨h4.1, h4.2.1⟩
  repeat' (first | exact @id (emp _ = true) | (intro h; first | exact Bool.noConfusion h | (simp only [Qn] at h) | skip) | ((conv => whnf) <;> (first | exact trivial | apply Qa | apply And.intro | apply Qb | apply Qc | apply Qd | apply Qe | apply Qf | apply Qg | apply Qh | apply Qi | exact QA | exact QP | refine QG ?_ | apply Qj | apply Qk | apply Ql | apply Qm | apply Qo | apply Qp | apply Qw | apply Qv | apply Qu | apply Qt | apply Qs | apply Qr | apply Qq | apply Qx | apply wrapS | apply Qy | (with_reducible exact lenNil) | apply Eq.refl)) | ((with_reducible first | apply Y1 | apply Y2 | apply Y3 | show blkEq _ _ _); conv => whnf))
  all_goals try simp only [hw] at *
  all_goals first
    | omega
    | rfl
    | exact hasF_mem hh
    | (show (l.getD i.toNat default).length ≤ 1000000; omega)
    | (show l.length ≤ 1000000; omega)
    | (simp only [storeT, *, ↓reduceIte, Bool.false_eq_true]; done)
    | ((simp only [storeT, *, ↓reduceIte, Bool.false_eq_true]) <;> rfl)
    | (have hd : d = 0 := (by assumption)
       subst hd
       first
        | (simp only [storeT, *, ↓reduceIte, Bool.false_eq_true]; done)
        | ((simp only [storeT, *, ↓reduceIte, Bool.false_eq_true]) <;> rfl))
    | trace_state
end Go.Eng
namespace Go.Eng
open Go Go.Proofs
def R2 : List (Nat × FSpec) := (64, sDrop) :: R1
theorem R2_ok : GOK Tryz.prog (tab R2) := gok_cons drop_ok R1_ok
def sRTLock : FSpec := spec (List Int × List Int × Int × List (List Put) × Int × Int × Int × Int × Int) (fun (ws, ts, d, l, i, k, a, x, y) => [.agg (tsoC ws ts d l), .i i, .i k, .i a, .i x, .i y]) (fun (ws, ts, d, l, i, k, _) => hasF ws ts d l i = true ∧ 0 ≤ k ∧ k < 3)
  fun (ws, ts, d, l, i, k, a, x, y) => .tup [rTso (lockT (ws, ts, d, l) i k a x y).1, .c (.i (lockT (ws, ts, d, l) i k a x y).2.1), .c (.i (lockT (ws, ts, d, l) i k a x y).2.2)]
set_option maxHeartbeats 4000000 in
set_option maxRecDepth 100000 in
theorem rtlock_ok : Meets Tryz.prog 110 sRTLock := by
  refine meets_plain R2_ok rfl [] (fn := Tryz.f110) rfl rfl rfl (by decide) fun ⟨ws, ts, d, l, i, k, a, x, y⟩ hh => ?_
  have hh : hasF ws ts d l i = true ∧ 0 ≤ k ∧ k < 3 := hh
  have h2 := (hasF_iff.1 hh.1).2
  have h3 := hasF_len hh.1
  have h4 := hasF_sz hh.1
  have hk2 := hh.2
  repeat' (first | exact @id (emp _ = true) | (intro h; first | exact Bool.noConfusion h | (simp only [Qn] at h) | skip) | ((conv => whnf) <;> (first | exact trivial | apply Qa | apply And.intro | apply Qb | apply Qc | apply Qd | apply Qe | apply Qf | apply Qg | apply Qh | apply Qi | exact QA | exact QP | refine QG ?_ | apply Qj | apply Qk | apply Ql | apply Qm | apply Qo | apply Qp | apply Qw | apply Qv | apply Qu | apply Qt | apply Qs | apply Qr | apply Qq | apply Qx | apply wrapS | apply Qy | (with_reducible exact lenNil) | apply Eq.refl)) | ((with_reducible first | apply Y1 | apply Y2 | apply Y3 | show blkEq _ _ _); conv => whnf))
  all_goals first
    | omega
    | exact hasF_mem hh.1
    | (by_cases h9 : 0 < (l.getD i.toNat default).length
       · first
          | (exfalso; omega)
          | (simp only [lockT, hh, h9, and_self, ↓reduceIte]; done)
          | ((simp only [lockT, hh, h9, and_self, ↓reduceIte]) <;> rfl)
       · by_cases hl : (loadF ws ts a).2 = 0
         · obtain hk | hk | hk : k = 0 ∨ k = 1 ∨ k = 2 := by omega
           all_goals subst hk
           all_goals first
            | (exfalso; omega)
            | (have hb0 : ∀ w, becF 0 w x y = if w = x then y else w := fun w => rfl
               simp only [lockT, hh, h9, hl, hb0, and_self, ↓reduceIte, *]; done)
            | (have hb0 : ∀ w, becF 0 w x y = if w = x then y else w := fun w => rfl
               (simp only [lockT, hh, h9, hl, hb0, and_self, ↓reduceIte, *]) <;> rfl)
            | (have hb0 : ∀ w, becF 1 w x y = x := fun w => rfl
               simp only [lockT, hh, h9, hl, hb0, and_self, ↓reduceIte]; done)
            | (have hb0 : ∀ w, becF 1 w x y = x := fun w => rfl
               (simp only [lockT, hh, h9, hl, hb0, and_self, ↓reduceIte]) <;> rfl)
            | ((simp only [lockT, hh, h9, hl, and_self, ↓reduceIte]) <;> rfl)
            | (exfalso; simp_all; done)
         · first
            | (exfalso; omega)
            | (simp only [lockT, hh, h9, hl, and_self, ↓reduceIte]; done)
            | ((simp only [lockT, hh, h9, hl, and_self, ↓reduceIte]) <;> rfl)
            | (exfalso; simp_all; done))
    | trace_state
end Go.Eng
namespace Go.Eng
open Go Go.Proofs
def tsoEq (ws ts : List Int) (d : Int) (l : List (List Put)) (ws' ts' : List Int) (d' : Int) (l' : List (List Put)) : Bool := decide (ws = ws' ∧ ts = ts' ∧ d = d' ∧ l = l')
def sTSame : FSpec := spec (List Int × List Int × Int × List (List Put) × List Int × List Int × Int × List (List Put)) (fun (ws, ts, d, l, ws', ts', d', l') => [.agg (tsoC ws ts d l), .agg (tsoC ws' ts' d' l')])
  (fun (ws, ts, d, l, ws', ts', d', l') => ws.length ≤ 1000000 ∧ ts.length ≤ 1000000 ∧ Small l ∧ Small l') fun (ws, ts, d, l, ws', ts', d', l') => .b (tsoEq ws ts d l ws' ts' d' l')
theorem tsoEq_no1 {ws ts : List Int} {d : Int} {l : List (List Put)} {ws' ts' : List Int} {d' : Int} {l' : List (List Put)} (h : sameF ws ts ws' ts' = false) : tsoEq ws ts d l ws' ts' d' l' = false := by
  apply decide_eq_false
  rintro ⟨rfl, rfl, _⟩
  rw [sameF_self] at h; cases h
theorem tsoEq_no2 {ws ts : List Int} {d : Int} {l : List (List Put)} {ws' ts' : List Int} {d' : Int} {l' : List (List Put)} (h : ¬ d = d') : tsoEq ws ts d l ws' ts' d' l' = false :=
  decide_eq_false fun e => h e.2.2.1
theorem tsoEq_no3 {ws ts : List Int} {d : Int} {l : List (List Put)} {ws' ts' : List Int} {d' : Int} {l' : List (List Put)} (h : ¬ l = l') : tsoEq ws ts d l ws' ts' d' l' = false :=
  decide_eq_false fun e => h e.2.2.2
theorem tsoEq_yes {ws ts : List Int} {d : Int} {l : List (List Put)} {ws' ts' : List Int} {d' : Int} {l' : List (List Put)} (h : sameF ws ts ws' ts' = true) (h2 : d = d') (h3 : l = l') : tsoEq ws ts d l ws' ts' d' l' = true := by
  simp only [sameF, decide_eq_true_eq] at h
  exact decide_eq_true ⟨h.1, h.2, h2, h3⟩
set_option maxHeartbeats 4000000 in
set_option maxRecDepth 100000 in
theorem tsame_ok : Meets Tryz.prog 46 sTSame := by
  refine meets_plain R2_ok rfl [] (fn := Tryz.f46) rfl rfl rfl (by decide) fun ⟨ws, ts, d, l, ws', ts', d', l'⟩ ⟨h1, h2, h3, h4⟩ => ?_
  repeat' (first | exact @id (emp _ = true) | (intro h; first | exact Bool.noConfusion h | (simp only [Qn] at h) | skip) | ((conv => whnf) <;> (first | exact trivial | apply Qa | apply And.intro | apply CutE.go8 | apply Qb | apply Qc | apply Qd | apply Qe | apply Qf | apply Qg | apply Qh | apply Qi | exact QA | exact QP | refine QG ?_ | apply Qj | apply Qk | apply Ql | apply Qm | apply Qo | apply Qp | apply Qw | apply Qv | apply Qu | apply Qt | apply Qs | apply Qr | apply Qq | apply Qx | apply wrapS | apply Qy | (with_reducible exact lenNil) | apply Eq.refl)) | ((with_reducible first | apply Y1 | apply Y2 | apply Y3 | show blkEq _ _ _); conv => whnf))
  all_goals try first
    | exact h1
    | exact h2
    | exact tsoEq_no1 (by assumption)
    | exact tsoEq_no2 (by assumption)
    | (apply tsoEq_no3; rintro rfl; contradiction)
  have hs : sameF ws ts ws' ts' = true := by assumption
  have hd : d = d' := by assumption
  have hll : l.length = l'.length := by omega
  have h31 := h3.1
  apply LoopP.up (G := Nat) (fun k => k ≤ l.length ∧ Up k fun i => l.getD i default = l'.getD i default) [2, 3, 30, 31] (fun k => [(31, .i k)]) (fun _ => []) 2 (fun k => l.length - k)
  apply And.intro
  · refine CutE.at 0 ?_
    repeat' (first | exact @id (emp _ = true) | (intro h; first | exact Bool.noConfusion h | (simp only [Qn] at h) | skip) | ((conv => whnf) <;> (first | exact trivial | apply Qa | apply And.intro | apply Qb | apply Qc | apply Qd | apply Qe | apply Qf | apply Qg | apply Qh | apply Qi | exact QA | exact QP | refine QG ?_ | apply Qj | apply Qk | apply Ql | apply Qm | apply Qo | apply Qp | apply Qw | apply Qv | apply Qu | apply Qt | apply Qs | apply Qr | apply Qq | apply Qx | apply wrapS | apply Qy | (with_reducible exact lenNil) | apply Eq.refl)) | ((with_reducible first | apply Y1 | apply Y2 | apply Y3 | show blkEq _ _ _); conv => whnf))
    all_goals try simp only [Int.toNat_natCast, Int.toNat_zero, ge_iff_le, gt_iff_lt, Int.ofNat_le, Int.ofNat_lt, Int.ofNat_inj] at *
    all_goals first
      | omega
      | (dsimp only; omega)
      | assumption
      | exact Up.zero _
      | (show ((8 : Nat) : Int) * _ ≤ _; omega)
      | (show _ * (8 : Nat) ≤ _; omega)
      | (show _ * (16 : Nat) ≤ _; omega)
      | (show _ * (24 : Nat) ≤ _; omega)
      | trace_state
  · intro k ⟨hk, hu⟩
    repeat' (first | exact @id (emp _ = true) | (intro h; first | exact Bool.noConfusion h | (simp only [Qn] at h) | skip) | ((conv => whnf) <;> (first | exact trivial | apply Qa | apply And.intro | refine CutE.at (A := Nat) (k + 1) ?_ | apply Qb | apply Qc | apply Qd | apply Qe | apply Qf | apply Qg | apply Qh | apply Qi | exact QA | exact QP | refine QG ?_ | apply Qj | apply Qk | apply Ql | apply Qm | apply Qo | apply Qp | apply Qw | apply Qv | apply Qu | apply Qt | apply Qs | apply Qr | apply Qq | apply Qx | apply wrapS | apply Qy | (with_reducible exact lenNil) | apply Eq.refl)) | ((with_reducible first | apply Y1 | apply Y2 | apply Y3 | show blkEq _ _ _); conv => whnf))
    all_goals try simp only [Int.toNat_natCast] at *
    all_goals first
      | omega
      | exact h3.2 _
      | exact h4.2 _
      | (apply tsoEq_no3; rintro rfl; exact absurd rfl (by assumption))
      | exact hu.succ (by assumption)
      | exact tsoEq_yes hs hd (eq_of_upG hll (k := k) (by omega) hu)
      | trace_state
def newT (ws ts : List Int) (n d : Int) : Tso × Int := if memR ws ts = true then (if sizesF n d = true then ((ws, ts, d, List.replicate n.toNat []), 0) else (tso0, 2)) else (tso0, 1)
def sTNew : FSpec := spec (List Int × List Int × Int × Int) (fun (ws, ts, n, d) => [.agg (memC ws ts), .i n, .i d]) (fun _ => True) fun (ws, ts, n, d) => .tup [rTso (newT ws ts n d).1, .c (.i (newT ws ts n d).2)]
theorem slG_repB {n i t : Nat} (hi : i < n) (ht : t < 1) : slG bufE (List.replicate n []) i t = putsS [] := by
  obtain rfl : t = 0 := by omega
  simp [slG, List.getD_eq_getElem?_getD, List.getElem?_replicate, hi]
theorem sizesF_iff {n d : Int} : sizesF n d = true ↔ (1 ≤ n ∧ n ≤ 8 ∧ 0 ≤ d ∧ d ≤ 8) := decide_eq_true_iff
set_option maxHeartbeats 4000000 in
set_option maxRecDepth 100000 in
theorem tnew_ok : Meets Tryz.prog 44 sTNew := by
  refine meets_plain T7_ok rfl [] (fn := Tryz.f44) rfl rfl rfl (by decide) fun ⟨ws, ts, n, d⟩ _ => ?_
  repeat' (first | exact @id (emp _ = true) | (intro h; first | exact Bool.noConfusion h | (simp only [Qn] at h) | skip) | ((conv => whnf) <;> (first | exact trivial | apply Qa | apply And.intro | refine NilP.at 2 false (slG encP []) ?_ | apply Qb | apply Qc | apply Qd | apply Qe | apply Qf | apply Qg | apply Qh | apply Qi | exact QA | exact QP | refine QG ?_ | apply Qj | apply Qk | apply Ql | apply Qm | apply Qo | apply Qp | apply Qw | apply Qv | apply Qu | apply Qt | apply Qs | apply Qr | apply Qq | apply Qx | apply wrapS | apply Qy | (with_reducible exact lenNil) | apply Eq.refl)) | ((with_reducible first | apply Y1 | apply Y2 | apply Y3 | show blkEq _ _ _); conv => whnf))
  all_goals first
    | (have := sizesF_iff.1 (by assumption); omega)
    | (have := sizesF_iff.1 (by assumption); show 24 * _ ≤ _; omega)
    | (simp only [newT, *, ↓reduceIte, Bool.false_eq_true]; done)
    | ((simp only [newT, *, ↓reduceIte, Bool.false_eq_true]) <;> rfl)
    | (rename_i i hi t
       have e : newT ws ts n d = ((ws, ts, d, List.replicate n.toNat []), 0) := (by simp only [newT, *, ↓reduceIte])
       rw [e] at hi ⊢
       have hi : i < (List.replicate n.toNat ([] : List Put)).length := hi
       rw [List.length_replicate] at hi
       obtain rfl : t = 0 := by omega
       exact slG_repB hi (by omega))
    | (simp only [newT, *, ↓reduceIte, Bool.false_eq_true, List.length_replicate]; done)
    | trace_state
def sRTNew : FSpec := spec (List Int × List Int × Int × Int) (fun (ws, ts, n, d) => [.agg (memC ws ts), .i n, .i d]) (fun (_, _, n, _) => 1 ≤ n ∧ n ≤ 8) fun (ws, ts, n, d) => .s (rTso (ws, ts, d, List.replicate n.toNat []))
set_option maxHeartbeats 4000000 in
set_option maxRecDepth 100000 in
theorem rtnew_ok : Meets Tryz.prog 47 sRTNew := by
  refine meets_plain R2_ok rfl [] (fn := Tryz.f47) rfl rfl rfl (by decide) fun ⟨ws, ts, n, d⟩ hn => ?_
  have hn : 1 ≤ n ∧ n ≤ 8 := hn
  obtain ⟨c, rfl⟩ : ∃ c : Nat, n = c := ⟨n.toNat, by omega⟩
  repeat' (first | exact @id (emp _ = true) | (intro h; first | exact Bool.noConfusion h | (simp only [Qn] at h) | skip) | ((conv => whnf) <;> (first | exact trivial | apply Qa | apply And.intro | apply Qb | apply Qc | apply Qd | apply Qe | apply Qf | apply Qg | apply Qh | apply Qi | exact QA | exact QP | refine QG ?_ | apply Qj | apply Qk | apply Ql | apply Qm | apply Qo | apply Qp | apply Qw | apply Qv | apply Qu | apply Qt | apply Qs | apply Qr | apply Qq | apply Qx | apply wrapS | apply Qy | (with_reducible exact lenNil) | apply Eq.refl)) | ((with_reducible first | apply Y1 | apply Y2 | apply Y3 | show blkEq _ _ _); conv => whnf))
  apply LoopP.up (G := Nat) (fun k => k ≤ c) [1, 6, 7, 8] (fun k => [(8, .i k)]) (fun k => [(2, .row 29 [intsS ws, intsS ts, .i d, .osl 3]), (3, .slc 45 1 k (slG bufE (List.replicate k [])))]) 4 (fun k => c - k)
  apply And.intro
  · refine CutE.at 0 ⟨EntP.at [⟨true, 2, 3, 45, 1⟩] [0, 1, 2, 3] ?_, ?_⟩
    all_goals repeat' (first | exact @id (emp _ = true) | (intro h; first | exact Bool.noConfusion h | (simp only [Qn] at h) | skip) | ((conv => whnf) <;> (first | exact trivial | apply Qa | apply And.intro | apply Qb | apply Qc | apply Qd | apply Qe | apply Qf | apply Qg | apply Qh | apply Qi | exact QA | exact QP | refine QG ?_ | apply Qj | apply Qk | apply Ql | apply Qm | apply Qo | apply Qp | apply Qw | apply Qv | apply Qu | apply Qt | apply Qs | apply Qr | apply Qq | apply Qx | apply wrapS | apply Qy | (with_reducible exact lenNil) | apply Eq.refl)) | ((with_reducible first | apply Y1 | apply Y2 | apply Y3 | show blkEq _ _ _); conv => whnf))
    all_goals try simp only [Int.toNat_natCast, Int.toNat_zero, ge_iff_le, gt_iff_lt, Int.ofNat_le, Int.ofNat_lt, Int.ofNat_inj] at *
    all_goals first
      | omega
      | (dsimp only; omega)
      | assumption
      | exact Up.zero _
      | (show ((8 : Nat) : Int) * _ ≤ _; omega)
      | (show _ * (8 : Nat) ≤ _; omega)
      | (show _ * (16 : Nat) ≤ _; omega)
      | (show _ * (24 : Nat) ≤ _; omega)
      | trace_state
  · intro k hk
    repeat' (first | exact @id (emp _ = true) | (intro h; first | exact Bool.noConfusion h | (simp only [Qn] at h) | skip) | ((conv => whnf) <;> (first | exact trivial | apply Qa | apply And.intro | refine CutE.at (A := Nat) (k + 1) ?_ | refine NilP.at 2 false (slG encP []) ?_ | (refine EntP.at (n := 4) [] [0, 1, 2, 5] ?_) | apply Qb | apply Qc | apply Qd | apply Qe | apply Qf | apply Qg | apply Qh | apply Qi | exact QA | exact QP | refine QG ?_ | apply Qj | apply Qk | apply Ql | apply Qm | apply Qo | apply Qp | apply Qw | apply Qv | apply Qu | apply Qt | apply Qs | apply Qr | apply Qq | apply Qx | apply wrapS | apply Qy | (with_reducible exact lenNil) | apply Eq.refl)) | ((with_reducible first | apply Y1 | apply Y2 | apply Y3 | show blkEq _ _ _); conv => whnf))
    all_goals try simp only [Int.toNat_natCast, Int.ofNat_lt] at *
    all_goals first
      | omega
      | (show (k + 1) * 24 ≤ _; omega)
      | (show c - (k + 1) < c - k; omega)
      | (show k + 1 ≤ c; omega)
      | (show (List.replicate c ([] : List Put)).length = k; rw [List.length_replicate]; omega)
      | (rw [List.replicate_succ']; exact (slG_snoc (enc := bufE) (k := 1) (x := []) (by simp) rfl _ (by assumption) _ (by assumption)).symm)
      | (rw [show k = c by omega])
      | trace_state
end Go.Eng
namespace Go.Eng
open Go Go.Proofs
end Go.Eng
namespace Go.Eng
open Go Go.Proofs
theorem getD_setB {l : List (List Put)} {i j : Nat} {b : List Put} (hi : i < l.length) : (l.set i b).getD j default = if i = j then b else l.getD j default := by
  simp only [List.getD_eq_getElem?_getD]
  by_cases e : i = j
  · subst e; rw [List.getElem?_set_self hi, if_pos rfl]; rfl
  · rw [List.getElem?_set_ne e, if_neg e]
/-- What a store changes of which machines may be: nothing. -/
theorem tsoR_ws {ws ws' ts : List Int} {d : Int} {l : List (List Put)} (h : tsoR ws ts d l = true) (hm : memR ws' ts = true) (hl : ws'.length = ws.length) : tsoR ws' ts d l = true := by
  obtain ⟨_, h2, h3⟩ := tsoR_iff.1 h
  exact tsoR_iff.2 ⟨hm, h2, fun i hi => by rw [hl]; exact h3 i hi⟩
theorem tsoR_set {ws ts : List Int} {d : Int} {l : List (List Put)} (h : tsoR ws ts d l = true) {i : Nat} {b : List Put} (hi : i < l.length) (hb : okB ws.length d b = true) : tsoR ws ts d (l.set i b) = true := by
  obtain ⟨h1, h2, h3⟩ := tsoR_iff.1 h
  refine tsoR_iff.2 ⟨h1, by rw [List.length_set]; exact h2, fun j hj => ?_⟩
  rw [getD_setB hi]
  split
  · exact hb
  · exact h3 j (by simpa using hj)
theorem okB_snoc {n : Nat} {d : Int} {b : List Put} {p : Put} (h : okB n d b = true) (hl : (b.length : Int) < d) (hp : 0 ≤ p.1 ∧ p.1 < n) : okB n d (b ++ [p]) = true := by
  simp only [okB, Bool.and_eq_true, decide_eq_true_eq, Bool.not_eq_true', List.any_append, Bool.or_eq_false_iff] at h ⊢
  refine ⟨by simp only [List.length_append, List.length_cons, List.length_nil]; omega, h.2, ?_⟩
  simp only [List.any_cons, List.any_nil, Bool.or_false]
  exact badP_f (by omega)
/-- A store that is made, either at once or waiting. -/
theorem store_cases {ws ts : List Int} {d : Int} {l : List (List Put)} {i a v : Int} (h : (storeT (ws, ts, d, l) i a v).2 = 0) :
    hasF ws ts d l i = true ∧ useF ws ts a = 0 ∧
    ((d = 0 ∧ (storeT (ws, ts, d, l) i a v).1 = (ws.set a.toNat v, ts, d, l)) ∨
     (d ≠ 0 ∧ ((l.getD i.toNat default).length : Int) < d ∧ (storeT (ws, ts, d, l) i a v).1 = (ws, ts, d, l.set i.toNat (l.getD i.toNat default ++ [(a, v)])))) := by
  by_cases hh : hasF ws ts d l i = true
  · by_cases hu : useF ws ts a = 0
    · have hs := storeF_go hu (v := v)
      have h3 := hasF_len hh
      have h4 := hasF_sz hh
      have hp := push_here (p := (a, v)) h3 ⟨h4.1, h4.2.1⟩
      refine ⟨hh, hu, ?_⟩
      by_cases hd : d = 0
      · refine .inl ⟨hd, ?_⟩
        simp only [storeT, hh, hs, hd, ↓reduceIte]
        subst hd
        simp only [hh, ↓reduceIte]
      · by_cases hl : ((l.getD i.toNat default).length : Int) = d
        · rw [if_pos hl] at hp
          simp only [storeT, hh, hs, hd, hp, ↓reduceIte] at h
          simp at h
        · rw [if_neg hl] at hp
          refine .inr ⟨hd, by omega, ?_⟩
          simp only [storeT, hh, hs, hd, hp, ↓reduceIte]
    · have hs := storeF_no hu (v := v)
      (simp only [storeT, hh, hs, hu, ↓reduceIte] at h) <;> exact absurd h hu
  · rw [storeT, if_neg hh] at h
    exact absurd h (by decide)
end Go.Eng
