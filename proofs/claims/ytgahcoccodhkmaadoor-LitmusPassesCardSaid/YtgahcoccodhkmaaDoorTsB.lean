/- A part of the walks, and of the machine that proves them (TsB). -/
import Derived.Test.YtgahcoccodhkmaaDoorTsA
set_option linter.unusedVariables false
set_option linter.unusedSimpArgs false
namespace Go.Eng
open Go Go.Proofs
theorem any_up {n : Nat} {b : List Put} {j : Nat} (hj : b.length ≤ j) (h : Up j fun i => badP n (b.getD i default) = false) : b.any (badP n) = false := by
  rw [List.any_eq_false]
  intro p hp
  obtain ⟨i, hi, rfl⟩ := List.getElem_of_mem hp
  have := h.get i (by omega)
  rw [List.getD_eq_getElem?_getD, List.getElem?_eq_getElem hi] at this
  simpa using this
theorem any_at {n : Nat} {b : List Put} {j : Nat} (hj : j < b.length) (h : badP n (b.getD j default) = true) : b.any (badP n) = true := by
  rw [List.any_eq_true]
  refine ⟨b[j], List.getElem_mem hj, ?_⟩
  rw [List.getD_eq_getElem?_getD, List.getElem?_eq_getElem hj] at h
  exact h
theorem badP_t {n : Nat} {p : Put} (h : p.1 < 0 ∨ (n : Int) ≤ p.1) : badP n p = true := decide_eq_true h
theorem badP_f {n : Nat} {p : Put} (h : ¬ (p.1 < 0 ∨ (n : Int) ≤ p.1)) : badP n p = false := decide_eq_false h
theorem okB_any {n : Nat} {d : Int} {b : List Put} (h : b.any (badP n) = true) : okB n d b = false := by rw [okB, h, Bool.not_true, Bool.and_false]
theorem okB_len {n : Nat} {d : Int} {b : List Put} (h : ¬ (b.length : Int) ≤ d) : okB n d b = false := by rw [okB, decide_eq_false h, Bool.false_and]
theorem okB_t {n : Nat} {d : Int} {b : List Put} (h : (b.length : Int) ≤ d) (h2 : b.any (badP n) = false) : okB n d b = true := by rw [okB, h2, decide_eq_true h]; rfl
def withB (l : List (List Put)) (i : Int) (b : List Put) : List (List Put) := if 0 ≤ i then l.set i.toNat b else l
theorem withB_len (l : List (List Put)) (a : Int) (v : List Put) : (withB l a v).length = l.length := by unfold withB; split <;> simp
theorem withB_at {l : List (List Put)} {a : Int} {v : List Put} {k : Nat} (hk : k < l.length) (h : (k : Int) = a) : (withB l a v).getD k default = v := by
  subst h
  simp [withB, List.getD_eq_getElem?_getD, hk]
theorem withB_ne {l : List (List Put)} {a : Int} {v : List Put} {k : Nat} (h : ¬ (k : Int) = a) : (withB l a v).getD k default = l.getD k default := by
  unfold withB
  split
  · simp only [List.getD_eq_getElem?_getD]
    rw [List.getElem?_set_ne (by omega)]
  · rfl
def sRWith : FSpec := spec (List (List Put) × Int × List Put) (fun (l, a, v) => [.c (bufsS l), .i a, .c (putsS v)]) (fun (l, _, _) => l.length ≤ 1000000) fun (l, a, v) => .c (bufsS (withB l a v))
end Go.Eng
namespace Go.Eng
open Go Go.Proofs
def R1 : List (Nat × FSpec) := M4
theorem R1_ok : GOK Tryd.prog (tab R1) := M4_ok
theorem hasF_mem {ws ts : List Int} {d : Int} {l : List (List Put)} {i : Int} (h : hasF ws ts d l i = true) : memR ws ts = true := (tsoR_iff.1 (hasF_iff.1 h).1).1
theorem hasF_sz {ws ts : List Int} {d : Int} {l : List (List Put)} {i : Int} (h : hasF ws ts d l i = true) : 0 ≤ d ∧ d ≤ 8 ∧ l.length ≤ 8 := by
  have := (tsoR_iff.1 (hasF_iff.1 h).1).2.1
  simp only [sizesF, decide_eq_true_eq] at this
  omega
theorem hasF_len {ws ts : List Int} {d : Int} {l : List (List Put)} {i : Int} (h : hasF ws ts d l i = true) : ((l.getD i.toNat default).length : Int) ≤ d := by
  obtain ⟨h1, h2, h3⟩ := hasF_iff.1 h
  have := (tsoR_iff.1 h1).2.2 i.toNat (by omega)
  simp only [okB, Bool.and_eq_true, decide_eq_true_eq] at this
  exact this.1
theorem hasF_ws {ws ts : List Int} {d : Int} {l : List (List Put)} {i : Int} (h : hasF ws ts d l i = true) : ws.length ≤ 160 ∧ ts.length = ws.length := by
  have := memR_iff.1 (hasF_mem h)
  exact ⟨this.2.1, this.2.2.1⟩
def sRTLoad : FSpec := spec (List Int × List Int × Int × List (List Put) × Int × Int) (fun (ws, ts, d, l, i, a) => [.agg (tsoC ws ts d l), .i i, .i a]) (fun (ws, ts, d, l, i, _) => hasF ws ts d l i = true) fun (ws, ts, d, l, i, a) => .tup [.c (.i (loadT (ws, ts, d, l) i a).1), .c (.i (loadT (ws, ts, d, l) i a).2)]
def sDrop : FSpec := spec TsoI (fun (ws, ts, d, l, i) => [.agg (tsoC ws ts d l), .i i]) (fun (ws, ts, d, l, i) => hasF ws ts d l i = true) fun (ws, ts, d, l, i) => .s (rTso (ws, ts, d, l.set i.toNat ((l.getD i.toNat default).drop 1)))
theorem push_here {b : List Put} {d : Int} {p : Put} (h : (b.length : Int) ≤ d) (h0 : 0 ≤ d ∧ d ≤ 8) : pushF b d p = if (b.length : Int) = d then ([], 7) else (b ++ [p], 0) := by
  rw [pushF, if_neg (by omega)]
def sRTStore : FSpec := spec (List Int × List Int × Int × List (List Put) × Int × Int × Int) (fun (ws, ts, d, l, i, a, v) => [.agg (tsoC ws ts d l), .i i, .i a, .i v]) (fun (ws, ts, d, l, i, _) => hasF ws ts d l i = true) fun (ws, ts, d, l, i, a, v) => .tup [rTso (storeT (ws, ts, d, l) i a v).1, .c (.i (storeT (ws, ts, d, l) i a v).2)]
end Go.Eng
namespace Go.Eng
open Go Go.Proofs
def R2 : List (Nat × FSpec) := R1
theorem R2_ok : GOK Tryd.prog (tab R2) := R1_ok
def sRTFlush : FSpec := spec TsoI (fun (ws, ts, d, l, i) => [.agg (tsoC ws ts d l), .i i]) (fun (ws, ts, d, l, i) => hasF ws ts d l i = true) fun (ws, ts, d, l, i) => .tup [rTso (flushT (ws, ts, d, l) i).1, .c (.i (flushT (ws, ts, d, l) i).2)]
def sRTLock : FSpec := spec (List Int × List Int × Int × List (List Put) × Int × Int × Int × Int × Int) (fun (ws, ts, d, l, i, k, a, x, y) => [.agg (tsoC ws ts d l), .i i, .i k, .i a, .i x, .i y]) (fun (ws, ts, d, l, i, k, _) => hasF ws ts d l i = true ∧ 0 ≤ k ∧ k < 3)
  fun (ws, ts, d, l, i, k, a, x, y) => .tup [rTso (lockT (ws, ts, d, l) i k a x y).1, .c (.i (lockT (ws, ts, d, l) i k a x y).2.1), .c (.i (lockT (ws, ts, d, l) i k a x y).2.2)]
end Go.Eng
namespace Go.Eng
open Go Go.Proofs
def tsoEq (ws ts : List Int) (d : Int) (l : List (List Put)) (ws' ts' : List Int) (d' : Int) (l' : List (List Put)) : Bool := decide (ws = ws' ∧ ts = ts' ∧ d = d' ∧ l = l')
def sTSame : FSpec := spec (List Int × List Int × Int × List (List Put) × List Int × List Int × Int × List (List Put)) (fun (ws, ts, d, l, ws', ts', d', l') => [.agg (tsoC ws ts d l), .agg (tsoC ws' ts' d' l')])
  (fun (ws, ts, d, l, ws', ts', d', l') => ws.length ≤ 1000000 ∧ ts.length ≤ 1000000 ∧ Small l ∧ Small l') fun (ws, ts, d, l, ws', ts', d', l') => .b (tsoEq ws ts d l ws' ts' d' l')
theorem tsoEq_no1 {ws ts : List Int} {d : Int} {l : List (List Put)} {ws' ts' : List Int} {d' : Int} {l' : List (List Put)} (h : sameF ws ts ws' ts' = false) : tsoEq ws ts d l ws' ts' d' l' = false := by
  apply decide_eq_false
  rintro ⟨rfl, rfl, _⟩
  rw [sameF_self] at h; cases h
theorem tsoEq_no2 {ws ts : List Int} {d : Int} {l : List (List Put)} {ws' ts' : List Int} {d' : Int} {l' : List (List Put)} (h : ¬ d = d') : tsoEq ws ts d l ws' ts' d' l' = false :=
  decide_eq_false fun e => h e.2.2.1
theorem tsoEq_no3 {ws ts : List Int} {d : Int} {l : List (List Put)} {ws' ts' : List Int} {d' : Int} {l' : List (List Put)} (h : ¬ l = l') : tsoEq ws ts d l ws' ts' d' l' = false :=
  decide_eq_false fun e => h e.2.2.2
theorem tsoEq_yes {ws ts : List Int} {d : Int} {l : List (List Put)} {ws' ts' : List Int} {d' : Int} {l' : List (List Put)} (h : sameF ws ts ws' ts' = true) (h2 : d = d') (h3 : l = l') : tsoEq ws ts d l ws' ts' d' l' = true := by
  simp only [sameF, decide_eq_true_eq] at h
  exact decide_eq_true ⟨h.1, h.2, h2, h3⟩
theorem tsoEq_self (ws ts : List Int) (d : Int) (l : List (List Put)) : tsoEq ws ts d l ws ts d l = true := decide_eq_true ⟨rfl, rfl, rfl, rfl⟩
def newT (ws ts : List Int) (n d : Int) : Tso × Int := if memR ws ts = true then (if sizesF n d = true then ((ws, ts, d, List.replicate n.toNat []), 0) else (tso0, 2)) else (tso0, 1)
def sTNew : FSpec := spec (List Int × List Int × Int × Int) (fun (ws, ts, n, d) => [.agg (memC ws ts), .i n, .i d]) (fun _ => True) fun (ws, ts, n, d) => .tup [rTso (newT ws ts n d).1, .c (.i (newT ws ts n d).2)]
theorem slG_repB {n i t : Nat} (hi : i < n) (ht : t < 1) : slG bufE (List.replicate n []) i t = putsS [] := by
  obtain rfl : t = 0 := by omega
  simp [slG, List.getD_eq_getElem?_getD, List.getElem?_replicate, hi]
theorem sizesF_iff {n d : Int} : sizesF n d = true ↔ (1 ≤ n ∧ n ≤ 8 ∧ 0 ≤ d ∧ d ≤ 8) := decide_eq_true_iff
set_option maxHeartbeats 4000000 in
set_option maxRecDepth 100000 in
theorem tnew_ok : Meets Tryd.prog 16 sTNew := by
  refine meets_plain T7_ok rfl [] (fn := Tryd.f16) rfl rfl rfl (by decide) fun ⟨ws, ts, n, d⟩ _ => ?_
  repeat' (first | exact @id (emp _ = true) | (intro h; first | exact Bool.noConfusion h | (simp only [Qn] at h) | skip) | ((conv => whnf) <;> (first | exact trivial | apply Qa | apply And.intro | refine NilP.at 2 false (slG encP []) ?_ | apply Qb | apply Qc | apply Qd | apply Qe | apply Qf | apply Qg | apply Qh | apply Qi | exact QA | exact QP | refine QG ?_ | apply Qj | apply Qk | apply Ql | apply Qm | apply Qo | apply Qp | apply Qw | apply Qv | apply Qu | apply Qt | apply Qs | apply Qr | apply Qq | apply Qx | apply wrapS | apply Qy | (with_reducible exact lenNil) | apply Eq.refl)) | ((with_reducible first | apply Y1 | apply Y2 | apply Y3 | show blkEq _ _ _); conv => whnf))
  all_goals first
    | (have := sizesF_iff.1 (by assumption); omega)
    | (have := sizesF_iff.1 (by assumption); show 24 * _ ≤ _; omega)
    | (simp only [newT, *, ↓reduceIte, Bool.false_eq_true]; done)
    | ((simp only [newT, *, ↓reduceIte, Bool.false_eq_true]) <;> rfl)
    | (rename_i i hi t
       have e : newT ws ts n d = ((ws, ts, d, List.replicate n.toNat []), 0) := (by simp only [newT, *, ↓reduceIte])
       rw [e] at hi ⊢
       have hi : i < (List.replicate n.toNat ([] : List Put)).length := hi
       rw [List.length_replicate] at hi
       obtain rfl : t = 0 := by omega
       exact slG_repB hi (by omega))
    | (simp only [newT, *, ↓reduceIte, Bool.false_eq_true, List.length_replicate]; done)
    | trace_state
def sRTNew : FSpec := spec (List Int × List Int × Int × Int) (fun (ws, ts, n, d) => [.agg (memC ws ts), .i n, .i d]) (fun (_, _, n, _) => 1 ≤ n ∧ n ≤ 8) fun (ws, ts, n, d) => .s (rTso (ws, ts, d, List.replicate n.toNat []))
def machT (ws ts : List Int) (d : Int) (l : List (List Put)) : Tso := (ws.take 170, ts.take 170, d, (l.take 10).map (List.take 10))
def sMach : FSpec := spec (List Int × List Int × Int × List (List Put)) (fun (ws, ts, d, l) => [.c (intsS ws), .c (intsS ts), .i d, .c (bufsS l)]) (fun _ => True) fun (ws, ts, d, l) => .s (rTso (machT ws ts d l))
theorem map_takeS {l : List (List Put)} {k : Nat} (hk : k < l.length) : (l.map (List.take 10)).take (k + 1) = (l.map (List.take 10)).take k ++ [(l.getD k default).take 10] := by
  rw [take_getD (d := default) (by simpa using hk)]
  simp [List.getD_eq_getElem?_getD, List.getElem?_map, List.getElem?_eq_getElem hk]
theorem small2 (a b : List Put) (ha : a.length ≤ 10) (hb : b.length ≤ 10) : ∀ i, ([a, b].getD i default).length ≤ 1000000
  | 0 => by show a.length ≤ _; omega
  | 1 => by show b.length ≤ _; omega
  | i + 2 => Nat.zero_le _
def T8 : List (Nat × FSpec) := (16, sTNew) :: (43, sTStore) :: (44, sTLoad) :: (19, sTFlush) :: (46, sTLock) :: (55, sTsoRight) :: R2
theorem T8_ok : GOK Tryd.prog (tab T8) := gok_cons tnew_ok (gok_cons tstore_ok (gok_cons tload_ok (gok_cons tflush_ok (gok_cons tlock_ok (gok_cons tsoRight_ok R2_ok)))))
def sTsoAlive : FSpec := sTrue Unit fun _ => []
end Go.Eng
