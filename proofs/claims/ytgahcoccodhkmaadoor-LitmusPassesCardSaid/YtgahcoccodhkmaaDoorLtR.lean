/- A part of the walks, and of the machine that proves them (LtR). -/
import Derived.Test.YtgahcoccodhkmaaDoorLtU
set_option linter.unusedVariables false
set_option linter.unusedSimpArgs false
namespace Go.Eng
open Go Go.Proofs
theorem CutE.go10 {A B C D E F H I J K : Type} {p : A × B × C × D × E × F × H × I × J × K → Prop} {a : A} {b : B} {c : C} {d : D} {e : E} {f : F} {g : H} {i : I} {j : J} {k : K} (h : p (a, b, c, d, e, f, g, i, j, k)) : CutE (A × B × C × D × E × F × H × I × J × K) p := ⟨⟨(a, b, c, d, e, f, g, i, j, k), h⟩⟩
theorem CutE.go14 {A B C D E F H I J K L M N O : Type} {p : A × B × C × D × E × F × H × I × J × K × L × M × N × O → Prop} {a : A} {b : B} {c : C} {d : D} {e : E} {f : F} {g : H} {i : I} {j : J} {k : K} {l : L} {m : M} {n : N} {o : O} (h : p (a, b, c, d, e, f, g, i, j, k, l, m, n, o)) : CutE (A × B × C × D × E × F × H × I × J × K × L × M × N × O) p := ⟨⟨(a, b, c, d, e, f, g, i, j, k, l, m, n, o), h⟩⟩
abbrev FromG := Nat × Nat × List (List Mv) × LS × List LS × List (List Int) × List Int × List Int × Int × List (List Put) × Nat × Nat × Nat × List Int × List Int × List Int
theorem CutE.goS {p : FromG → Prop} (w d : Nat) (ms : List (List Mv)) (s : LS) (V : List LS) (O : List (List Int)) {ws ts : List Int} {dd : Int} {l : List (List Put)} {a0 a1 a2 : Nat} {n0 n1 n2 : List Int} (h : p (w, d, ms, s, V, O, ws, ts, dd, l, a0, a1, a2, n0, n1, n2)) : CutE FromG p := ⟨⟨_, h⟩⟩
theorem CallP.own6 {A : Type} {p : OwnG 6 A → List Nat → Prop} {s0 s1 s2 s3 s4 s5 : Nat} (h : CutE A fun a => p ⟨a⟩ [s0, s1, s2, s3, s4, s5]) : CallP (OwnG 6 A) p := by
  obtain ⟨g, h⟩ := h
  exact ⟨_, _, h⟩
theorem four_lit {q : Nat} (a b c e : List Int) (hq : q = 1) (i : Nat) (hi : i < 4) (t : Nat) (ht : t < 1) : slG rowE [a, b, c, e] i t = litG q [intsS a, intsS b, intsS c, intsS e] i t := by
  subst hq
  obtain rfl : t = 0 := by omega
  match i, hi with
  | 0, _ => rfl
  | 1, _ => rfl
  | 2, _ => rfl
  | 3, _ => rfl
theorem snocR {L L' : List (List Int)} {r : List Int} {q : Nat} (e : L' = L ++ [r]) (hq : q = 1) (i : Nat) (hi : i < L'.length) (t : Nat) (ht : t < 1) : slG rowE L' i t = catG L.length (slG rowE L) (litG q [intsS r]) i t := by
  subst e hq
  exact (slG_snoc (enc := rowE) (x := r) rfl rfl i (by simpa using hi) t ht).symm
/-- The program's flush of a state, and the plain one. -/
theorem fl_yes {w d : Nat} {ms : List (List Mv)} {s : LS} (F : Fit w d ms s) {ws ts : List Int} {dd : Int} {l : List (List Put)} {a0 a1 a2 : Nat} {n0 n1 n2 : List Int} (R : RawOf w d s ws ts dd l a0 a1 a2 n0 n1 n2) {k : Nat} (hk : k < ms.length)
    (h : (flushT (ws, ts, dd, l) k).2 = 0) : ∃ t, flushL s k = some t ∧ RawOf w d t (flushT (ws, ts, dd, l) k).1.1 (flushT (ws, ts, dd, l) k).1.2.1 (flushT (ws, ts, dd, l) k).1.2.2.1 (flushT (ws, ts, dd, l) k).1.2.2.2 a0 a1 a2 n0 n1 n2 := by
  cases e : flushL s k with
  | none =>
    have h1 := flush_no F hk e
    rw [R.ws, R.ts, R.dd, R.l, h1] at h
    cases h
  | some t =>
    obtain ⟨h1, h2, h3⟩ := flush_raw F hk e
    refine ⟨t, rfl, ?_⟩
    rw [R.ws, R.ts, R.dd, R.l, h1]
    exact ⟨rfl, rfl, rfl, rfl, by rw [h2]; exact R.a0, by rw [h2]; exact R.a1, by rw [h2]; exact R.a2, by rw [h3]; exact R.n0, by rw [h3]; exact R.n1, by rw [h3]; exact R.n2⟩
theorem fl_no {w d : Nat} {ms : List (List Mv)} {s : LS} (F : Fit w d ms s) {ws ts : List Int} {dd : Int} {l : List (List Put)} {a0 a1 a2 : Nat} {n0 n1 n2 : List Int} (R : RawOf w d s ws ts dd l a0 a1 a2 n0 n1 n2) {k : Nat} (hk : k < ms.length)
    (h : ¬ (flushT (ws, ts, dd, l) k).2 = 0) : flushL s k = none := by
  cases e : flushL s k with
  | none => rfl
  | some t =>
    obtain ⟨h1, _, _⟩ := flush_raw F hk e
    rw [R.ws, R.ts, R.dd, R.l, h1] at h
    exact absurd rfl h
theorem small_raw {w d : Nat} {ms : List (List Mv)} {s : LS} (F : Fit w d ms s) {ws ts : List Int} {dd : Int} {l : List (List Put)} {a0 a1 a2 : Nat} {n0 n1 n2 : List Int} (R : RawOf w d s ws ts dd l a0 a1 a2 n0 n1 n2) : Small l := by
  rw [R.l]
  refine ⟨by rw [List.length_map, F.o.tl]; have := F.n; omega, fun i => ?_⟩
  cases e : s.2[i]? with
  | none =>
    rw [List.getD_eq_getElem?_getD, List.getElem?_map, e]
    exact Nat.zero_le _
  | some t =>
    rw [buf_at e]
    have h1 := (F.o.th i t e).wait
    have h2 := F.T.depth
    omega
theorem getD_some {α : Type} [Inhabited α] {L : List α} {j : Nat} (h : j < L.length) : L[j]? = some (L.getD j default) := by
  rw [List.getD_eq_getElem?_getD, List.getElem?_eq_getElem h]
  rfl
theorem four_len (w d : Nat) (ms : List (List Mv)) (s : LS) (F : Fit w d ms s) {ws ts : List Int} {dd : Int} {l : List (List Put)} {a0 a1 a2 : Nat} {n0 n1 n2 : List Int} (R : RawOf w d s ws ts dd l a0 a1 a2 n0 n1 n2) (i : Nat) : ([n0, n1, n2, ws].getD i default).length ≤ 1000 := by
  have hn : ∀ j, (ntI s j).length ≤ 6 := fun j => by
    unfold ntI
    rw [List.getD_eq_getElem?_getD]
    cases e : s.2[j]? with
    | none => exact Nat.zero_le _
    | some t =>
      have h1 := (F.o.th j t e).few
      have h2 := (F.o.th j t e).made
      have h3 := F.T.few j
      show t.2.1.length ≤ 6
      omega
  match i with
  | 0 => show n0.length ≤ 1000; rw [R.n0]; have := hn 0; omega
  | 1 => show n1.length ≤ 1000; rw [R.n1]; have := hn 1; omega
  | 2 => show n2.length ≤ 1000; rw [R.n2]; have := hn 2; omega
  | 3 => show ws.length ≤ 1000; rw [R.ws, F.o.wl]; have := F.T.words; omega
  | i + 4 => exact Nat.zero_le _
def litC (w d : Int) (ms : List (List Mv)) : List Cell := [.i w, .i d, slC 1 mvsE ms]
structure FromPre (n w d : Nat) (ms : List (List Mv)) (s : LS) (V : List LS) (O : List (List Int)) (ws ts : List Int) (dd : Int) (l : List (List Put)) (a0 a1 a2 : Nat) (n0 n1 n2 : List Int) : Prop where
  F : Fit w d ms s
  R : RawOf w d s ws ts dd l a0 a1 a2 n0 n1 n2
  V : ∀ t ∈ V, OkS w d ms t
  mu : muL ms s < n
  small : O.length + Bn n ≤ 5000000000
theorem fl_pre {n w d : Nat} {ms : List (List Mv)} {s : LS} (F : Fit w d ms s) (hmu : muL ms s < n + 1) {V : List LS} {O : List (List Int)} (hV : ∀ t ∈ V, OkS w d ms t) (hs : O.length + Bn n ≤ 5000000000) {ws ts : List Int} {dd : Int} {l : List (List Put)} {a0 a1 a2 : Nat} {n0 n1 n2 : List Int} (R : RawOf w d s ws ts dd l a0 a1 a2 n0 n1 n2) {k : Nat} (hk : k < ms.length)
    (h : (flushT (ws, ts, dd, l) k).2 = 0) : FromPre n w d ms ((flushL s k).getD s) V O (flushT (ws, ts, dd, l) k).1.1 (flushT (ws, ts, dd, l) k).1.2.1 (flushT (ws, ts, dd, l) k).1.2.2.1 (flushT (ws, ts, dd, l) k).1.2.2.2 a0 a1 a2 n0 n1 n2 := by
  obtain ⟨t, e, R'⟩ := fl_yes F R hk h
  rw [e]
  exact ⟨⟨F.T, F.n, ok_flush F.o e⟩, R', hV, by have := mu_flush (ms := ms) hk e; show muL ms t < n; omega, hs⟩
/-- The program's move of a state, and the plain one. -/
theorem mv_raw {w d : Nat} {ms : List (List Mv)} {s : LS} (F : Fit w d ms s) {ws ts : List Int} {dd : Int} {l : List (List Put)} {a0 a1 a2 : Nat} {n0 n1 n2 : List Int} (R : RawOf w d s ws ts dd l a0 a1 a2 n0 n1 n2) {k : Nat} (hk : k < ms.length) {m : Mv} (hm : (ms.getD k [])[atI s k]? = some m) :
    ((moveT (ws, ts, dd, l) k m.1 m.2.1 m.2.2).2.2 = true → ∃ t, moveL d ms s k = some t ∧ RawOf w d t (moveT (ws, ts, dd, l) k m.1 m.2.1 m.2.2).1.1 (moveT (ws, ts, dd, l) k m.1 m.2.1 m.2.2).1.2.1 (moveT (ws, ts, dd, l) k m.1 m.2.1 m.2.2).1.2.2.1 (moveT (ws, ts, dd, l) k m.1 m.2.1 m.2.2).1.2.2.2
        (atU k 0 a0) (atU k 1 a1) (atU k 2 a2) (ntO k 0 n0 (moveT (ws, ts, dd, l) k m.1 m.2.1 m.2.2).2.1) (ntO k 1 n1 (moveT (ws, ts, dd, l) k m.1 m.2.1 m.2.2).2.1) (ntO k 2 n2 (moveT (ws, ts, dd, l) k m.1 m.2.1 m.2.2).2.1)) ∧
    ((moveT (ws, ts, dd, l) k m.1 m.2.1 m.2.2).2.2 = false → moveL d ms s k = none) := by
  have h := move_raw F hk hm
  rw [R.ws, R.ts, R.dd, R.l]
  cases e : moveL d ms s k with
  | none =>
    rw [e] at h
    have h : (moveT (s.1, List.replicate w 1, (d : Int), s.2.map (·.1)) k m.1 m.2.1 m.2.2).2.2 = false := h
    refine ⟨fun h' => ?_, fun _ => rfl⟩
    rw [h] at h'; cases h'
  | some t =>
    rw [e] at h
    obtain ⟨h1, h2, h3, h4⟩ := h
    refine ⟨fun _ => ⟨t, rfl, ?_⟩, fun h' => by rw [h2] at h'; cases h'⟩
    rw [h1]
    exact ⟨rfl, rfl, rfl, rfl, by rw [R.a0]; exact h3 0, by rw [R.a1]; exact h3 1, by rw [R.a2]; exact h3 2, by rw [R.n0]; exact h4 0, by rw [R.n1]; exact h4 1, by rw [R.n2]; exact h4 2⟩
theorem mv_pre {n w d : Nat} {ms : List (List Mv)} {s : LS} (F : Fit w d ms s) (hmu : muL ms s < n + 1) {V : List LS} {O : List (List Int)} (hV : ∀ t ∈ V, OkS w d ms t) (hs : O.length + Bn n ≤ 5000000000) {ws ts : List Int} {dd : Int} {l : List (List Put)} {a0 a1 a2 : Nat} {n0 n1 n2 : List Int} (R : RawOf w d s ws ts dd l a0 a1 a2 n0 n1 n2) {k : Nat} (hk : k < ms.length) {m : Mv} (hm : (ms.getD k [])[atI s k]? = some m)
    (h : (moveT (ws, ts, dd, l) k m.1 m.2.1 m.2.2).2.2 = true) : FromPre n w d ms ((moveL d ms s k).getD s) V O (moveT (ws, ts, dd, l) k m.1 m.2.1 m.2.2).1.1 (moveT (ws, ts, dd, l) k m.1 m.2.1 m.2.2).1.2.1 (moveT (ws, ts, dd, l) k m.1 m.2.1 m.2.2).1.2.2.1 (moveT (ws, ts, dd, l) k m.1 m.2.1 m.2.2).1.2.2.2
        (atU k 0 a0) (atU k 1 a1) (atU k 2 a2) (ntO k 0 n0 (moveT (ws, ts, dd, l) k m.1 m.2.1 m.2.2).2.1) (ntO k 1 n1 (moveT (ws, ts, dd, l) k m.1 m.2.1 m.2.2).2.1) (ntO k 2 n2 (moveT (ws, ts, dd, l) k m.1 m.2.1 m.2.2).2.1) := by
  obtain ⟨t, e, R'⟩ := (mv_raw F R hk hm).1 h
  rw [e]
  exact ⟨⟨F.T, F.n, ok_move F.T.moves F.o e⟩, R', hV, by have := mu_move (ms := ms) hk e; show muL ms t < n; omega, hs⟩
theorem mvPre_raw {w d : Nat} {ms : List (List Mv)} {s : LS} (F : Fit w d ms s) {ws ts : List Int} {dd : Int} {l : List (List Put)} {a0 a1 a2 : Nat} {n0 n1 n2 : List Int} (R : RawOf w d s ws ts dd l a0 a1 a2 n0 n1 n2) {k : Nat} (hk : k < ms.length) {m : Mv} (hm : (ms.getD k [])[atI s k]? = some m) : MvPre l a0 a1 a2 n0 n1 n2 k m.1 := by
  have hn : ∀ j, (ntI s j).length ≤ 6 ∧ atI s j ≤ 6 := fun j => by
    unfold ntI atI
    rw [List.getD_eq_getElem?_getD]
    cases e : s.2[j]? with
    | none => exact ⟨Nat.zero_le _, Nat.zero_le _⟩
    | some t =>
      have h1 := (F.o.th j t e).few
      have h2 := (F.o.th j t e).made
      have h3 := F.T.few j
      show t.2.1.length ≤ 6 ∧ t.2.2 ≤ 6
      omega
  have hkind := (F.T.moves k m (List.mem_of_getElem? hm)).kind
  have h0 := hn 0
  have h1 := hn 1
  have h2 := hn 2
  have h3 := F.n
  refine ⟨by omega, by rw [R.l, List.length_map, F.o.tl]; exact hk, hkind.1, hkind.2, small_raw F R, ?_, ?_, ?_, ?_, ?_, ?_⟩
  · rw [R.a0]; omega
  · rw [R.a1]; omega
  · rw [R.a2]; omega
  · rw [R.n0]; omega
  · rw [R.n1]; omega
  · rw [R.n2]; omega
def fromB : Blk := .row 54 [.fn 17 [.ptr 0 0, .ptr 2 0, .ptr 3 0, .ptr 4 0]]
def sFrom (n : Nat) : FSpec := lentSpec 6 FromG (fun (_, _, _, _, _, _, ws, ts, dd, l, a0, a1, a2, n0, n1, n2) => [.agg (lsC ws ts dd l a0 a1 a2 n0 n1 n2), .c (.ptr 0 0), .c (.ptr 2 0), .c (.ptr 3 0), .c (.ptr 4 0)])
  (fun (w, d, ms, _, V, O, _) => [.row 53 [.mp 1], .smap (metF V), .row 24 (litC w d ms), .row 54 [.fn 17 [.ptr 0 0, .ptr 2 0, .ptr 3 0, .ptr 4 0]], .row 29 [.osl 5], .slc 36 1 O.length (slG rowE O)])
  (fun (w, d, ms, s, V, O, ws, ts, dd, l, a0, a1, a2, n0, n1, n2) => FromPre n w d ms s V O ws ts dd l a0 a1 a2 n0 n1 n2) (fun _ => .tup [])
  fun (w, d, ms, s, V, O, _) => [.row 53 [.mp 1], .smap (metF (D d ms n s (V, O)).1), .row 24 (litC w d ms), .row 54 [.fn 17 [.ptr 0 0, .ptr 2 0, .ptr 3 0, .ptr 4 0]], .row 29 [.osl 6], .gone, .slc 36 1 (D d ms n s (V, O)).2.length (slG rowE (D d ms n s (V, O)).2)]
def N3 : List (Nat × FSpec) := (18, sKey) :: (20, sMove) :: (21, sConcI) :: N2
theorem N3_ok : GOK Tryd.prog (tab N3) := gok_cons key_ok (gok_cons move_ok (gok_cons concI_ok N2_ok))
def NF (n : Nat) : List (Nat × FSpec) := (17, sFrom n) :: N3
set_option maxHeartbeats 16000000 in
set_option maxRecDepth 100000 in
theorem from_succ {n : Nat} (hn : Meets Tryd.prog 17 (sFrom n)) : Meets Tryd.prog 17 (sFrom (n + 1)) := by
  refine meets_lent 7 (gok_cons hn N3_ok : GOK Tryd.prog (tab (NF n))) rfl [3, 14] (fn := Tryd.f17) rfl rfl rfl (by decide) (fun _ => rfl) (fun _ => rfl) (by decide) fun ⟨w, d, ms, s, V, O, ws, ts, dd, l, a0, a1, a2, n0, n1, n2⟩ h => ?_
  obtain ⟨F, R, hV, hmu, hsm⟩ : FromPre (n + 1) w d ms s V O ws ts dd l a0 a1 a2 n0 n1 n2 := h
  have h3 : s.2.length ≤ 3 := by rw [F.o.tl]; exact F.n.2
  have hK : (⟨(keyL ws (thsL l a0 a1 a2 n0 n1 n2 l.length)).toArray⟩ : ByteArray) = keyB s := by unfold keyB; rw [key_raw R h3]
  have hmem := met_in F hV
  rw [← hK] at hmem
  have hDin : s ∈ V → D d ms (n + 1) s (V, O) = (V, O) := fun h => by
    show dfs (succL d ms) (endL ms) rowL (n + 1) s (V, O) = _
    rw [dfs, if_pos h]
  obtain ⟨P, Q, hP⟩ := foldP_of F n O hV
  repeat' (first | exact @id (emp _ = true) | (intro h; first | exact Bool.noConfusion h | (simp only [Qn] at h) | skip) | ((conv => whnf) <;> (first | exact trivial | apply Qa | apply And.intro | refine (EntP.at (n := 7) [⟨true, 4, 0, 36, 1⟩] [0, 1, 2, 3, 4, 5, 7] ?_) | refine (EntP.at (n := 8) [⟨true, 4, 0, 36, 1⟩] [0, 1, 2, 3, 4, 5, 6, 7] ?_) | apply CutE.go10 | refine CutP.to (G := Unit) (fun _ => ¬ s ∈ V) [1, 2, 3, 4, 5, 6] (fun _ => []) (fun _ => [(0, .row 53 [.mp 1]), (1, .smap (metF V)), (2, .row 24 (litC w d ms)), (3, fromB), (4, .row 29 [.osl 7]), (5, .gone), (6, .row 58 (lsC ws ts dd l a0 a1 a2 n0 n1 n2)), (7, .slc 36 1 O.length (slG rowE O))]) 8 ?_ | apply Qb | apply Qc | apply Qd | apply Qe | apply Qf | apply Qg | apply Qh | apply Qi | exact QA | exact QP | refine QG ?_ | apply Qj | apply Qk | apply Ql | apply Qm | apply Qo | apply Qp | apply Qw | apply Qv | apply Qu | apply Qt | apply Qs | apply Qr | apply Qq | apply Qx | apply wrapS | apply Qy | (with_reducible exact lenNil) | apply Eq.refl)) | ((with_reducible first | apply Y1 | apply Y2 | apply Y3 | show blkEq _ _ _); conv => whnf))
  all_goals try first
    | exact keyOk_raw F R
    | (rw [hDin (hmem.1 (by assumption))]; done)
    | exact absurd (hmem.2 (by assumption)) (by assumption)
    | (rw [hDin (hmem.1 (by assumption))] <;> rfl)
  have hml : ms.length ≤ 3 := F.n.2
  have hBs : Bn (n + 1) = 1 + 6 * Bn n := rfl
  have hns : ¬ s ∈ V := by assumption
  have hfin := hP.fin hns
  repeat' (first | exact @id (emp _ = true) | (intro h; first | exact Bool.noConfusion h | (simp only [Qn] at h) | skip) | ((conv => whnf) <;> (first | exact trivial | apply Qa | apply And.intro | apply Qb | apply Qc | apply Qd | apply Qe | apply Qf | apply Qg | apply Qh | apply Qi | exact QA | exact QP | refine QG ?_ | apply Qj | apply Qk | apply Ql | apply Qm | apply Qo | apply Qp | apply Qw | apply Qv | apply Qu | apply Qt | apply Qs | apply Qr | apply Qq | apply Qx | apply wrapS | apply Qy | (with_reducible exact lenNil) | apply Eq.refl)) | ((with_reducible first | apply Y1 | apply Y2 | apply Y3 | show blkEq _ _ _); conv => whnf))
  apply LoopP.to (G := Nat) (fun k => k ≤ ms.length) [3, 4, 5, 7, 24, 25, 26] (fun k => [(7, .b (endF ms s k)), (26, .i k)]) (fun k => [(0, .row 53 [.mp 1]), (1, .smap (metF (P k).1)), (2, .row 24 (litC w d ms)), (3, fromB), (4, .row 29 [.osl 7]), (5, .gone), (6, .row 58 (lsC ws ts dd l a0 a1 a2 n0 n1 n2)), (7, .slc 36 1 (P k).2.length (slG rowE (P k).2))]) 8 (fun k => ms.length - k)
  apply And.intro
  · refine CutE.at (A := Nat) 0 ?_
    repeat' (first | exact @id (emp _ = true) | (intro h; first | exact Bool.noConfusion h | (simp only [Qn] at h) | skip) | ((conv => whnf) <;> (first | exact trivial | apply Qa | apply And.intro | apply Qb | apply Qc | apply Qd | apply Qe | apply Qf | apply Qg | apply Qh | apply Qi | exact QA | exact QP | refine QG ?_ | apply Qj | apply Qk | apply Ql | apply Qm | apply Qo | apply Qp | apply Qw | apply Qv | apply Qu | apply Qt | apply Qs | apply Qr | apply Qq | apply Qx | apply wrapS | apply Qy | (with_reducible exact lenNil) | apply Eq.refl)) | ((with_reducible first | apply Y1 | apply Y2 | apply Y3 | show blkEq _ _ _); conv => whnf))
    all_goals first
      | exact Nat.zero_le _
      | assumption
      | (rw [hP.p0, hK]; exact met_add V s _)
      | (rw [hP.p0] <;> rfl)
      | trace_state
  intro k hk
  have hPl := hP.lenP k
  have hQl := hP.lenQ k
  have hk6 : 2 * k * Bn n ≤ 6 * Bn n := Nat.mul_le_mul_right _ (by omega)
  have hE : endF ms s ms.length = endL ms s := rfl
  have hrow := row_raw R h3
  repeat' (first | exact @id (emp _ = true) | (intro h; first | exact Bool.noConfusion h | (simp only [Qn] at h) | skip) | ((conv => whnf) <;> (first | exact trivial | apply Qa | apply And.intro | refine CutE.at (A := List (List Int)) [n0, n1, n2, ws] ?_ | refine RoP.at (rowL s).length (slG encI (rowL s)) ?_ ?_ ?_ | apply Qb | apply Qc | apply Qd | apply Qe | apply Qf | apply Qg | apply Qh | apply Qi | exact QA | exact QP | refine QG ?_ | apply Qj | apply Qk | apply Ql | apply Qm | apply Qo | apply Qp | apply Qw | apply Qv | apply Qu | apply Qt | apply Qs | apply Qr | apply Qq | apply Qx | apply wrapS | apply Qy | (with_reducible exact lenNil) | apply Eq.refl)) | ((with_reducible first | apply Y1 | apply Y2 | apply Y3 | show blkEq _ _ _); conv => whnf))
  all_goals try first
    | omega
    | (show ((P k).2.length + 1) * 24 ≤ 140737488355328; omega)
    | exact four_len w d ms s F R _
    | (show 4 ≤ 100; decide)
    | (rw [hrow]; done)
    | exact four_lit n0 n1 n2 ws rfl _ (by assumption) _ (by assumption)
    | (rw [hrow] <;> rfl)
    | (have hkl : k = ms.length := by omega
       subst hkl
       have hEy : endL ms s = true := (show endF ms s ms.length = true by assumption)
       rw [if_pos hEy] at hfin
       first
        | (rw [hfin]; done)
        | exact (congrArg (fun x : List LS × List (List Int) => x.2.length) hfin).trans List.length_append
        | exact snocR (congrArg (fun x : List LS × List (List Int) => x.2) hfin) rfl _ (by assumption) _ (by assumption))
    | (have hkl : k = ms.length := by omega
       subst hkl
       have hEn : endL ms s = false := (show endF ms s ms.length = false by assumption)
       rw [hEn, if_neg Bool.noConfusion] at hfin
       rw [hfin])
  have hkn : k < ms.length := by omega
  clear hrow hE hfin
  have hk4 : 2 * k * Bn n ≤ 4 * Bn n := Nat.mul_le_mul_right _ (by omega)
  have hk5 : (2 * k + 1) * Bn n ≤ 5 * Bn n := Nat.mul_le_mul_right _ (by omega)
  conv => whnf
  apply CutP.to (G := Nat × Unit) (fun _ => True) [3, 4, 5, 7, 8, 9, 24, 25, 26] (fun _ => [(7, .b (endF ms s k && (flushL s k).isNone))]) (fun _ => [(0, .row 53 [.mp 1]), (1, .smap (metF (Q k).1)), (2, .row 24 (litC w d ms)), (3, fromB), (4, .row 29 [.osl 7]), (5, .gone), (6, .row 58 (lsC ws ts dd l a0 a1 a2 n0 n1 n2)), (7, .slc 36 1 (Q k).2.length (slG rowE (Q k).2))]) 8
  apply And.intro
  · have hSm := small_raw F R
    have hfp := fl_pre (O := (P k).2) F hmu (hP.okP k) (by omega) R hkn
    have hq := hP.q k
    have hqy : (flushT (ws, ts, dd, l) k).2 = 0 → Q k = D d ms n ((flushL s k).getD s) ((P k).1, (P k).2) ∧ (flushL s k).isNone = false := fun h => by
      obtain ⟨t, e, _⟩ := fl_yes F R hkn h
      rw [hq, e]
      exact ⟨rfl, rfl⟩
    have hqn : ¬ (flushT (ws, ts, dd, l) k).2 = 0 → Q k = P k ∧ (flushL s k).isNone = true := fun h => by
      have e := fl_no F R hkn h
      rw [hq, e]
      exact ⟨rfl, rfl⟩
    repeat' (first | exact @id (emp _ = true) | (intro h; first | exact Bool.noConfusion h | (simp only [Qn] at h) | skip) | ((conv => whnf) <;> (first | exact trivial | apply Qa | apply And.intro | apply CallP.own6 | apply CutE.goS w d ms ((flushL s k).getD s) (P k).1 (P k).2 | refine CutE.at (A := Nat × Unit) (0, ()) ?_ | apply Qb | apply Qc | apply Qd | apply Qe | apply Qf | apply Qg | apply Qh | apply Qi | exact QA | exact QP | refine QG ?_ | apply Qj | apply Qk | apply Ql | apply Qm | apply Qo | apply Qp | apply Qw | apply Qv | apply Qu | apply Qt | apply Qs | apply Qr | apply Qq | apply Qx | apply wrapS | apply Qy | (with_reducible exact lenNil) | apply Eq.refl)) | ((with_reducible first | apply Y1 | apply Y2 | apply Y3 | show blkEq _ _ _); conv => whnf))
    all_goals first
      | exact hSm.1
      | exact hSm.2 _
      | exact hfp (by assumption)
      | rw [(hqy (by assumption)).1]
      | (rw [(hqy (by assumption)).2, Bool.and_false])
      | rw [(hqn (by assumption)).1]
      | (rw [(hqn (by assumption)).2, Bool.and_true])
      | trace_state
  rintro ⟨u0, u1⟩ _
  have hk3 : k < 3 := by omega
  have hat : [(a0 : Int), (a1 : Int), (a2 : Int)].getD k 0 = (atI s k : Int) := by
    match k, hk3 with
    | 0, _ => exact congrArg Nat.cast R.a0
    | 1, _ => exact congrArg Nat.cast R.a1
    | 2, _ => exact congrArg Nat.cast R.a2
  have hp := hP.p k
  have hge : (ms.getD k default) = ms.getD k [] := rfl
  have hmade : atI s k ≤ (ms.getD k default).length := by
    have e := List.getElem?_eq_getElem (show k < s.2.length by rw [F.o.tl]; exact hkn)
    rw [at_is e]
    exact (F.o.th k _ e).made
  have hM : ¬ (atI s k : Int) = (ms.getD k default).length → (ms.getD k [])[atI s k]? = some ((ms.getD k default).getD (atI s k) default) := fun h => by
    have hlt : atI s k < (ms.getD k []).length := by have := hmade; rw [hge] at *; omega
    exact getD_some hlt
  have hpn : moveL d ms s k = none → P (k + 1) = Q k := fun e => by rw [hp, e]
  have hpy : ∀ t, moveL d ms s k = some t → P (k + 1) = D d ms n ((moveL d ms s k).getD s) ((Q k).1, (Q k).2) := fun t e => by rw [hp, e]; rfl
  have hend : (atI s k : Int) = (ms.getD k default).length → moveL d ms s k = none := fun h => by
    have e := List.getElem?_eq_getElem (show k < s.2.length by rw [F.o.tl]; exact hkn)
    generalize s.2[k]'(by rw [F.o.tl]; exact hkn) = t0 at e
    obtain ⟨b, nt, a⟩ := t0
    rw [at_is e] at h
    have h : (a : Int) = (ms.getD k []).length := h
    unfold moveL
    rw [e]
    show (match (ms.getD k [])[a]? with | some m => doL d s k b nt a m | none => none) = none
    rw [List.getElem?_eq_none (by omega)]
  repeat' (first | exact @id (emp _ = true) | (intro h; first | exact Bool.noConfusion h | (simp only [Qn] at h) | skip) | ((conv => whnf) <;> (first | exact trivial | apply Qa | apply And.intro | apply CallP.own6 | apply CutE.goS w d ms ((moveL d ms s k).getD s) (Q k).1 (Q k).2 | apply CutE.go14 | refine CutE.at (A := Nat) (k + 1) ?_ | apply Qb | apply Qc | apply Qd | apply Qe | apply Qf | apply Qg | apply Qh | apply Qi | exact QA | exact QP | refine QG ?_ | apply Qj | apply Qk | apply Ql | apply Qm | apply Qo | apply Qp | apply Qw | apply Qv | apply Qu | apply Qt | apply Qs | apply Qr | apply Qq | apply Qx | apply wrapS | apply Qy | (with_reducible exact lenNil) | apply Eq.refl)) | ((with_reducible first | apply Y1 | apply Y2 | apply Y3 | show blkEq _ _ _); conv => whnf))
  all_goals try simp only [Int.toNat_natCast] at *
  all_goals try rw [hat] at *
  all_goals try simp only [Int.toNat_natCast] at *
  all_goals try first
    | omega
    | (rw [endF_succ]
       congr 1
       cases e : flushL s k with
       | none => exact end_yes F hkn e (by rw [hge] at *; omega)
       | some t => exact end_no1 F e)
    | (rw [endF_succ, end_no2 F hkn (by rw [hge] at *; omega), Bool.and_false])
    | exact mvPre_raw F R hkn (hM (by assumption))
    | exact mv_pre (O := (Q k).2) F hmu (hP.okQ k) (by omega) R hkn (hM (by assumption)) (by assumption)
    | (rw [hpn (hend (by assumption))])
    | (rw [hpn ((mv_raw F R hkn (hM (by assumption))).2 (by assumption))])
    | (obtain ⟨t, et, _⟩ := (mv_raw F R hkn (hM (by assumption))).1 (by assumption)
       rw [hpy t et])
  all_goals trace_state
end Go.Eng
