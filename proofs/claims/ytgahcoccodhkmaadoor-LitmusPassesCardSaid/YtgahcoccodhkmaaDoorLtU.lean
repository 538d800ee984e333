/- A part of the walks, and of the machine that proves them (LtU). -/
import Derived.Test.YtgahcoccodhkmaaDoorLtQ
import Derived.Test.YtgahcoccodhkmaaDoorLtPg
set_option linter.unusedVariables false
set_option linter.unusedSimpArgs false
namespace Go.Eng
open Go Go.Proofs
def keyB (s : LS) : ByteArray := ⟨(keyL s.1 s.2).toArray⟩
/-- The states that were met, by their texts. -/
def metF (V : List LS) (k : ByteArray) : Option Int := if V.any (fun t => keyB t == k) = true then some 1 else none
theorem keyB_inj {w d : Nat} {ms : List (List Mv)} {s t : LS} (T : TestOk w d ms) (h : OkS w d ms s) (k : OkS w d ms t) (e : keyB s = keyB t) : s = t := by
  refine ok_key T h k ?_
  have e : (⟨(keyL s.1 s.2).toArray⟩ : ByteArray) = ⟨(keyL t.1 t.2).toArray⟩ := e
  have e := congrArg (fun b : ByteArray => b.data.toList) e
  exact e
theorem met_in {w d : Nat} {ms : List (List Mv)} {V : List LS} {s : LS} (F : Fit w d ms s) (hV : ∀ t ∈ V, OkS w d ms t) : (metF V (keyB s)).getD 0 > 0 ↔ s ∈ V := by
  unfold metF
  constructor
  · intro h
    split at h
    · rename_i ha
      obtain ⟨t, ht, e⟩ := List.any_eq_true.1 ha
      have e : keyB t = keyB s := ba_beq.1 e
      rw [← keyB_inj F.T (hV t ht) F.o e]
      exact ht
    · exact absurd h (by decide)
  · intro h
    rw [if_pos (List.any_eq_true.2 ⟨s, h, ba_beq.2 rfl⟩)]
    decide
theorem met_add (V : List LS) (s : LS) (a : ByteArray) : metF (V ++ [s]) a = if (a == keyB s) = true then some 1 else metF V a := by
  unfold metF
  rw [List.any_append]
  by_cases h : (a == keyB s) = true
  · rw [if_pos h]
    have e : a = keyB s := ba_beq.1 h
    subst e
    rw [List.any_cons, h, Bool.true_or, Bool.or_true, if_pos rfl]
  · rw [if_neg h]
    have e : ¬ keyB s = a := fun e => h (ba_beq.2 e.symm)
    rw [List.any_cons, ba_bne e, List.any_nil, Bool.or_false, Bool.or_false]
theorem key_raw {w d : Nat} {s : LS} {ws ts : List Int} {dd : Int} {l : List (List Put)} {a0 a1 a2 : Nat} {n0 n1 n2 : List Int} (R : RawOf w d s ws ts dd l a0 a1 a2 n0 n1 n2) (h3 : s.2.length ≤ 3) :
    keyL ws (thsL l a0 a1 a2 n0 n1 n2 l.length) = keyL s.1 s.2 := by
  rw [R.ws]
  congr 1
  unfold thsL
  rw [R.l, List.length_map]
  refine List.ext_getElem? fun i => ?_
  rw [List.getElem?_map]
  by_cases hi : i < s.2.length
  · rw [List.getElem?_range hi, List.getElem?_eq_getElem hi]
    show some (thI _ a0 a1 a2 n0 n1 n2 i) = _
    congr 1
    have e := List.getElem?_eq_getElem hi
    unfold thI
    rw [buf_at e]
    have hn : [n0, n1, n2].getD i [] = ntI s i := by
      match i, (show i < 3 by omega) with
      | 0, _ => exact R.n0
      | 1, _ => exact R.n1
      | 2, _ => exact R.n2
    have ha : [a0, a1, a2].getD i 0 = atI s i := by
      match i, (show i < 3 by omega) with
      | 0, _ => exact R.a0
      | 1, _ => exact R.a1
      | 2, _ => exact R.a2
    rw [hn, ha, nt_is e, at_is e]
  · rw [List.getElem?_eq_none (by rw [List.length_range]; omega), List.getElem?_eq_none (by omega)]
    rfl
theorem row_raw {w d : Nat} {s : LS} {ws ts : List Int} {dd : Int} {l : List (List Put)} {a0 a1 a2 : Nat} {n0 n1 n2 : List Int} (R : RawOf w d s ws ts dd l a0 a1 a2 n0 n1 n2) (h3 : s.2.length ≤ 3) :
    [n0, n1, n2, ws].flatten = rowL s := by
  rw [R.n0, R.n1, R.n2, R.ws]
  unfold rowL ntI
  obtain ⟨w, l⟩ := s
  have h3 : l.length ≤ 3 := h3
  match l, h3 with
  | [], _ => simp
  | [x], _ => simp
  | [x, y], _ => simp
  | [x, y, z], _ => simp
theorem keyOk_raw {w d : Nat} {ms : List (List Mv)} {s : LS} (F : Fit w d ms s) {ws ts : List Int} {dd : Int} {l : List (List Put)} {a0 a1 a2 : Nat} {n0 n1 n2 : List Int} (R : RawOf w d s ws ts dd l a0 a1 a2 n0 n1 n2) : KeyOk ws l a0 a1 a2 n0 n1 n2 := by
  have h3 : s.2.length ≤ 3 := by rw [F.o.tl]; exact F.n.2
  have hl : l.length = s.2.length := by rw [R.l, List.length_map]
  have hth : ∀ i, i < l.length → ∃ t, s.2[i]? = some t ∧ thI l a0 a1 a2 n0 n1 n2 i = t := fun i hi => by
    have e := List.getElem?_eq_getElem (show i < s.2.length by omega)
    refine ⟨_, e, ?_⟩
    unfold thI
    have hb : l.getD i default = s.2[i].1 := (congrArg (fun x => List.getD x i default) R.l).trans (buf_at e)
    rw [hb]
    have hn : [n0, n1, n2].getD i [] = ntI s i := by
      match i, (show i < 3 by omega) with
      | 0, _ => exact R.n0
      | 1, _ => exact R.n1
      | 2, _ => exact R.n2
    have ha : [a0, a1, a2].getD i 0 = atI s i := by
      match i, (show i < 3 by omega) with
      | 0, _ => exact R.a0
      | 1, _ => exact R.a1
      | 2, _ => exact R.a2
    rw [hn, ha, nt_is e, at_is e]
  refine ⟨by rw [R.ws]; exact F.o.wd, by rw [R.ws, F.o.wl]; have := F.T.words; omega, by omega, fun i hi => ?_, fun i hi => ?_⟩
  · obtain ⟨t, h1, h2⟩ := hth i hi
    rw [h2]
    exact ok_thr F.T F.o t (List.mem_of_getElem? h1)
  · obtain ⟨t, h1, h2⟩ := hth i hi
    rw [h2]
    have h4 := F.o.th i t h1
    have h5 := h4.wait
    have h6 := h4.few
    have h7 := h4.made
    have h8 := F.T.few i
    have h9 := F.T.depth
    omega
/-- How many rows are told at most. -/
def Bn : Nat → Nat
  | 0 => 0
  | n + 1 => 1 + 6 * Bn n
abbrev D (d : Nat) (ms : List (List Mv)) (n : Nat) (s : LS) (q : List LS × List (List Int)) : List LS × List (List Int) := dfs (succL d ms) (endL ms) rowL n s q
theorem next_len (d : Nat) (ms : List (List Mv)) (s : LS) (i : Nat) : (nextL d ms s i).length ≤ 2 := by
  unfold nextL
  rw [List.length_append]
  cases flushL s i <;> cases moveL d ms s i <;> simp
theorem fold_len {d : Nat} {ms : List (List Mv)} {n b : Nat} (hb : ∀ s q, (D d ms n s q).2.length ≤ q.2.length + b) : ∀ (l : List LS) (q : List LS × List (List Int)), (l.foldl (fun q t => D d ms n t q) q).2.length ≤ q.2.length + l.length * b
  | [], q => by simp
  | x :: l, q => by
    rw [List.foldl_cons]
    have h1 := fold_len hb l (D d ms n x q)
    have h2 := hb x q
    rw [List.length_cons, Nat.succ_mul]
    omega
theorem succ_len (d : Nat) (ms : List (List Mv)) (s : LS) : ∀ k, ((List.range k).flatMap (nextL d ms s)).length ≤ 2 * k
  | 0 => Nat.zero_le _
  | k + 1 => by
    rw [List.range_succ, List.flatMap_append, List.length_append, List.flatMap_cons, List.flatMap_nil, List.append_nil]
    have h1 := succ_len d ms s k
    have h2 := next_len d ms s k
    omega
theorem dfs_len {d : Nat} {ms : List (List Mv)} (h3 : ms.length ≤ 3) : ∀ (n : Nat) (s : LS) (q : List LS × List (List Int)), (D d ms n s q).2.length ≤ q.2.length + Bn n
  | 0, _, _ => Nat.le_refl _
  | n + 1, s, q => by
    show (dfs (succL d ms) (endL ms) rowL (n + 1) s q).2.length ≤ _
    rw [dfs]
    split
    · exact Nat.le_add_right _ _
    · have h1 := fold_len (d := d) (dfs_len (d := d) h3 n) (succL d ms s) (q.1 ++ [s], q.2)
      have h2 : (succL d ms s).length ≤ 6 := Nat.le_trans (succ_len d ms s ms.length) (by omega)
      have h4 : (succL d ms s).length * Bn n ≤ 6 * Bn n := Nat.mul_le_mul_right _ h2
      have h1 : ((succL d ms s).foldl (fun q t => dfs (succL d ms) (endL ms) rowL n t q) (q.1 ++ [s], q.2)).2.length ≤ q.2.length + (succL d ms s).length * Bn n := h1
      split
      · show (_ ++ [rowL s]).length ≤ _
        rw [List.length_append, List.length_singleton]
        show _ ≤ _ + (1 + 6 * Bn n)
        omega
      · show _ ≤ _ + (1 + 6 * Bn n)
        omega
theorem ok_next {w d : Nat} {ms : List (List Mv)} {s t : LS} (F : Fit w d ms s) {i : Nat} (h : t ∈ nextL d ms s i) : OkS w d ms t := by
  unfold nextL at h
  rcases List.mem_append.1 h with h | h
  · exact ok_flush F.o (Option.mem_toList.1 h)
  · exact ok_move F.T.moves F.o (Option.mem_toList.1 h)
theorem dfs_ok {w d : Nat} {ms : List (List Mv)} : ∀ (n : Nat) (s : LS) (q : List LS × List (List Int)), Fit w d ms s → (∀ t ∈ q.1, OkS w d ms t) → ∀ t ∈ (D d ms n s q).1, OkS w d ms t
  | 0, _, _, _, h => h
  | n + 1, s, q, F, h => by
    show ∀ t ∈ (dfs (succL d ms) (endL ms) rowL (n + 1) s q).1, OkS w d ms t
    rw [dfs]
    split
    · exact h
    · have key : ∀ (l : List LS) (q : List LS × List (List Int)), (∀ t ∈ l, OkS w d ms t) → (∀ t ∈ q.1, OkS w d ms t) → ∀ t ∈ (l.foldl (fun q t => dfs (succL d ms) (endL ms) rowL n t q) q).1, OkS w d ms t := by
        intro l
        induction l with
        | nil => exact fun q _ h => h
        | cons x l ih =>
          intro q hl hq
          rw [List.foldl_cons]
          exact ih _ (fun t ht => hl t (by simp [ht])) (dfs_ok n x q ⟨F.T, F.n, hl x (by simp)⟩ hq)
      have hs : ∀ t ∈ succL d ms s, OkS w d ms t := fun t ht => by
        obtain ⟨i, _, ht⟩ := List.mem_flatMap.1 ht
        exact ok_next F ht
      have hq : ∀ t ∈ q.1 ++ [s], OkS w d ms t := fun t ht => by
        rcases List.mem_append.1 ht with ht | ht
        · exact h t ht
        · rw [List.mem_singleton] at ht; rw [ht]; exact F.o
      split
      · exact key _ _ hs hq
      · exact key _ _ hs hq
/-- The rounds: what is held ahead of thread k, and behind its flush. -/
structure FoldP (w d : Nat) (ms : List (List Mv)) (s : LS) (n : Nat) (V : List LS) (O : List (List Int)) (P Q : Nat → List LS × List (List Int)) : Prop where
  p0 : P 0 = (V ++ [s], O)
  q : ∀ k, Q k = match flushL s k with | some t => D d ms n t (P k) | none => P k
  p : ∀ k, P (k + 1) = match moveL d ms s k with | some t => D d ms n t (Q k) | none => Q k
  fin : ¬ s ∈ V → D d ms (n + 1) s (V, O) = if endL ms s = true then ((P ms.length).1, (P ms.length).2 ++ [rowL s]) else P ms.length
  okP : ∀ k, ∀ t ∈ (P k).1, OkS w d ms t
  okQ : ∀ k, ∀ t ∈ (Q k).1, OkS w d ms t
  lenP : ∀ k, (P k).2.length ≤ O.length + 2 * k * Bn n
  lenQ : ∀ k, (Q k).2.length ≤ O.length + (2 * k + 1) * Bn n
theorem foldP_of {w d : Nat} {ms : List (List Mv)} {s : LS} (F : Fit w d ms s) (n : Nat) {V : List LS} (O : List (List Int)) (hV : ∀ t ∈ V, OkS w d ms t) : ∃ P Q, FoldP w d ms s n V O P Q := by
  let P : Nat → List LS × List (List Int) := fun k => ((List.range k).flatMap (nextL d ms s)).foldl (fun q t => D d ms n t q) (V ++ [s], O)
  let Q : Nat → List LS × List (List Int) := fun k => match flushL s k with | some t => D d ms n t (P k) | none => P k
  have hp : ∀ k, P (k + 1) = match moveL d ms s k with | some t => D d ms n t (Q k) | none => Q k := fun k => by
    show ((List.range (k + 1)).flatMap (nextL d ms s)).foldl _ _ = _
    rw [List.range_succ, List.flatMap_append, List.foldl_append, List.flatMap_cons, List.flatMap_nil, List.append_nil]
    unfold nextL
    rw [List.foldl_append]
    show ((moveL d ms s k).toList.foldl _ ((flushL s k).toList.foldl _ (P k))) = _
    have e : (flushL s k).toList.foldl (fun q t => D d ms n t q) (P k) = Q k := by
      show _ = match flushL s k with | some t => D d ms n t (P k) | none => P k
      cases flushL s k <;> rfl
    rw [e]
    cases moveL d ms s k <;> rfl
  have hq0 : ∀ t ∈ V ++ [s], OkS w d ms t := fun t ht => by
    rcases List.mem_append.1 ht with ht | ht
    · exact hV t ht
    · rw [List.mem_singleton] at ht; rw [ht]; exact F.o
  have okQ : ∀ k, (∀ t ∈ (P k).1, OkS w d ms t) → ∀ t ∈ (Q k).1, OkS w d ms t := fun k h => by
    show ∀ t ∈ (match flushL s k with | some t => D d ms n t (P k) | none => P k).1, _
    cases e : flushL s k with
    | none => exact h
    | some t => exact dfs_ok n t (P k) ⟨F.T, F.n, ok_flush F.o e⟩ h
  have okP : ∀ k, ∀ t ∈ (P k).1, OkS w d ms t := by
    intro k
    induction k with
    | zero => exact hq0
    | succ k ih =>
      rw [hp k]
      cases e : moveL d ms s k with
      | none => exact okQ k ih
      | some t => exact dfs_ok n t (Q k) ⟨F.T, F.n, ok_move F.T.moves F.o e⟩ (okQ k ih)
  have lenQ : ∀ k, (Q k).2.length ≤ (P k).2.length + Bn n := fun k => by
    show (match flushL s k with | some t => D d ms n t (P k) | none => P k).2.length ≤ _
    cases flushL s k with
    | none => exact Nat.le_add_right _ _
    | some t => exact dfs_len F.n.2 n t (P k)
  have lenP : ∀ k, (P k).2.length ≤ O.length + 2 * k * Bn n := by
    intro k
    induction k with
    | zero => exact Nat.le_add_right _ _
    | succ k ih =>
      have h1 := lenQ k
      have h2 : (P (k + 1)).2.length ≤ (Q k).2.length + Bn n := by
        rw [hp k]
        cases moveL d ms s k with
        | none => exact Nat.le_add_right _ _
        | some t => exact dfs_len F.n.2 n t (Q k)
      have e : 2 * (k + 1) * Bn n = 2 * k * Bn n + 2 * Bn n := by rw [Nat.mul_add, Nat.add_mul]
      omega
  refine ⟨P, Q, rfl, fun k => rfl, hp, fun hn => ?_, okP, fun k => okQ k (okP k), lenP, fun k => ?_⟩
  · show dfs (succL d ms) (endL ms) rowL (n + 1) s (V, O) = _
    rw [dfs, if_neg hn]
    rfl
  · have h1 := lenQ k
    have h2 := lenP k
    have e : (2 * k + 1) * Bn n = 2 * k * Bn n + Bn n := by rw [Nat.add_mul, Nat.one_mul]
    omega
/-- So far all threads have ended. -/
def endF (ms : List (List Mv)) (s : LS) (k : Nat) : Bool := (List.range k).all (endI ms s)
theorem endF_succ (ms : List (List Mv)) (s : LS) (k : Nat) : endF ms s (k + 1) = (endF ms s k && endI ms s k) := by
  unfold endF
  rw [List.range_succ, List.all_append]
  simp
theorem end_yes {w d : Nat} {ms : List (List Mv)} {s : LS} (F : Fit w d ms s) {k : Nat} (hk : k < ms.length) (h : flushL s k = none) (ha : atI s k = (ms.getD k []).length) : endI ms s k = true := by
  have e := List.getElem?_eq_getElem (show k < s.2.length by rw [F.o.tl]; exact hk)
  generalize s.2[k]'(by rw [F.o.tl]; exact hk) = t0 at e
  obtain ⟨b, nt, a⟩ := t0
  rw [at_is e] at ha
  unfold flushL at h
  rw [e] at h
  unfold endI
  rw [e]
  cases b with
  | cons p b => cases h
  | nil => exact decide_eq_true ⟨rfl, ha⟩
theorem end_no1 {w d : Nat} {ms : List (List Mv)} {s t : LS} (F : Fit w d ms s) {k : Nat} (h : flushL s k = some t) : endI ms s k = false := by
  unfold flushL at h
  split at h
  · rename_i p b nt a e
    unfold endI
    rw [e]
    exact decide_eq_false fun h => by cases h.1
  · cases h
theorem end_no2 {w d : Nat} {ms : List (List Mv)} {s : LS} (F : Fit w d ms s) {k : Nat} (hk : k < ms.length) (ha : ¬ atI s k = (ms.getD k []).length) : endI ms s k = false := by
  have e := List.getElem?_eq_getElem (show k < s.2.length by rw [F.o.tl]; exact hk)
  generalize s.2[k]'(by rw [F.o.tl]; exact hk) = t0 at e
  obtain ⟨b, nt, a⟩ := t0
  rw [at_is e] at ha
  unfold endI
  rw [e]
  exact decide_eq_false fun h => ha h.2
end Go.Eng
