/- A part of the walks, and of the machine that proves them (StM). -/
import Derived.Test.YtgahcoccodhkmaaGreatStA
import Derived.Test.YtgahcoccodhkmaaGreatStI
set_option linter.unusedVariables false
set_option linter.unusedSimpArgs false
namespace Go.Eng
open Go Go.Proofs Go.RowKit
def vFault (e : Int) : Value := .iface 111 (.agg #[.int .i64 e])
def chF (e : Int) : List PanicEntry := [{ v := vFault e, recovered := false }]
/-- A function that panics. -/
def panSpec (G : Type) (args : G → List RV) (pre : G → Prop) (ch : G → List PanicEntry) : FSpec :=
  { G := G, args := args, blks := fun _ => [], pre := pre, res := fun _ => .any, post := fun _ => [], panics := fun g => some (ch g), mayPan := true }
def sMustOk : FSpec := spec Unit (fun _ => [.i 0]) (fun _ => True) fun _ => .tup []
def sMustBad : FSpec := panSpec Int (fun e => [.i e]) (fun e => ¬ e = 0) chF
def sMust : FSpec := sMustOk.or sMustBad
set_option maxHeartbeats 1000000 in
set_option maxRecDepth 100000 in
theorem mustOk_ok : Meets Tryz.prog 53 sMustOk := by
  refine meets_plain (gok_nil _) rfl [] (fn := Tryz.f53) rfl rfl rfl (by decide) fun _ _ => ?_
  repeat' (first | exact @id (emp _ = true) | (intro h; first | exact Bool.noConfusion h | (simp only [Qn] at h) | skip) | ((conv => whnf) <;> (first | exact trivial | apply Qa | apply And.intro | apply Qb | apply Qc | apply Qd | apply Qe | apply Qf | apply Qg | apply Qh | apply Qi | exact QA | exact QP | refine QG ?_ | apply Qj | apply Qk | apply Ql | apply Qm | apply Qo | apply Qp | apply Qw | apply Qv | apply Qu | apply Qt | apply Qs | apply Qr | apply Qq | apply Qx | apply wrapS | apply Qy | (with_reducible exact lenNil) | apply Eq.refl)) | ((with_reducible first | apply Y1 | apply Y2 | apply Y3 | show blkEq _ _ _); conv => whnf))
set_option maxHeartbeats 1000000 in
set_option maxRecDepth 100000 in
theorem must_calls (e : Int) (he : ¬ e = 0) (w : World) : Calls Tryz.prog 53 #[.int .i64 e] w fun r w' => r = .panicked (chF e) ∧ w' = w := by
  refine calls_of_wp Tryz.func53 rfl ?_
  simp only [Tryz.ntmps53, List.size_toArray, List.length_cons, List.length_nil, Nat.reduceAdd, Nat.reduceSub, Array.replicate_succ, Array.replicate_zero, List.push_toArray, List.append_toArray, List.nil_append, List.cons_append]
  go_wp2
  all_goals exact ⟨rfl, rfl, rfl⟩
theorem mustBad_ok : Meets Tryz.prog 53 sMustBad where
  pn := fun _ _ _ h => by cases h
  qn := fun _ _ _ h => by cases h
  full := fun _ j h => by cases h
  kp := fun _ _ _ h => by cases h
  body := ⟨_, Tryz.func53, rfl, rfl⟩
  iter := fun γ n item h => by cases h
  run := fun e _ hp F hs w vals hnone hargs hrep => by
    obtain ⟨h1, h2⟩ := hargs
    have h1 : vals.size = 1 := h1
    have hv := h2 0 _ vals[0] rfl (Array.getElem?_eq_getElem (by omega))
    have hv := rel_v hv
    have hvals : vals = #[.int .i64 e] := by
      refine Array.ext (by simpa using h1) fun i hi hi' => ?_
      have : i = 0 := by omega
      subst this
      exact hv
    subst hvals
    refine (must_calls e hp w).mono ?_
    rintro r w' ⟨rfl, rfl⟩
    exact ⟨undef, rfl, hs, trivial, hrep, fun _ _ h => h, fun _ _ => rfl, Fr.refl _ _, fun x hx => .inl hx⟩
theorem must_ok : Meets Tryz.prog 53 sMust := meets_or mustOk_ok mustBad_ok
end Go.Eng
namespace Go.Eng
open Go Go.Proofs
/-- A function that is lent blocks, and panics. -/
def lentPan (n : Nat) (G : Type) (args : G → List RV) (blks : G → List Blk) (pre : G → Prop) (post : G → List Blk) (ch : G → List PanicEntry) : FSpec :=
  { G := OwnG n G, args := fun g => args g.g, blks := fun g => numB 0 (blks g.g), pre := fun g => pre g.g, res := fun _ => .any, post := fun g => numB 0 (post g.g), panics := fun g => some (ch g.g), mayPan := true }
theorem meets_lentPan (n' : Nat) {P : Program} {Γ : FuncId → Option FSpec} (hΓ : GOK P Γ) (hmix : P.follows .mixedOrders = true) {f : FuncId} {fn : Func} {c : Code} {n : Nat} {G : Type} {args : G → List RV}
    {blks : G → List Blk} {pre : G → Prop} {post : G → List Blk} {ch : G → List PanicEntry}
    (cuts : List Nat) (hf : P.funcs[f]? = some fn) (hb : fn.body = some c)
    (hname : (fn.name == "runtime.NumGoroutine") = false) (h6 : fn.results.toList.length ≤ 6)
    (h1 : ∀ g, (blks g).length = n) (h2 : ∀ g, (post g).length = n') (hn : n ≤ n')
    (h : ∀ γ : G, pre γ → bodyK P Γ cuts fn c (lentPan n G args blks pre post ch) ⟨γ⟩) : Meets P f (lentPan n G args blks pre post ch) :=
  meets_of hΓ hmix _ cuts hf hb hname h6
    (fun ⟨g⟩ j b hj => by
      have hj : look (numB 0 (blks g)) j = some b := hj
      rw [look_numB, if_pos (Nat.zero_le _)] at hj
      show j < (numB 0 (blks g)).length
      rw [numB_length]
      exact (List.getElem?_eq_some_iff.1 hj).1)
    (fun ⟨g⟩ j b hj => by
      have hj : look (numB 0 (post g)) j = some b := hj
      rw [look_numB, if_pos (Nat.zero_le _)] at hj
      show j < (numB 0 (post g)).length
      rw [numB_length]
      exact (List.getElem?_eq_some_iff.1 hj).1)
    (fun ⟨g⟩ j hj => by
      have hj : j < (numB 0 (blks g)).length := hj
      rw [numB_length] at hj
      show ∃ b, look (numB 0 (blks g)) j = some b
      rw [look_numB, if_pos (Nat.zero_le _)]
      exact ⟨_, List.getElem?_eq_getElem (by simpa using hj)⟩)
    (fun ⟨g⟩ j b hj => by
      have hj : look (numB 0 (blks g)) j = some b := hj
      rw [look_numB, if_pos (Nat.zero_le _)] at hj
      have hlt := (List.getElem?_eq_some_iff.1 hj).1
      show ∃ b, look (numB 0 (post g)) j = some b
      rw [look_numB, if_pos (Nat.zero_le _)]
      exact ⟨_, List.getElem?_eq_getElem (by have := h1 g; have := h2 g; omega)⟩)
    (fun ⟨g⟩ hp => h g hp)
abbrev Wk8 := Wd × Int × Th × Ins
def wxE (e : Bool) (w : Wd) (i : Int) (t : Th) (x : Ins) : List Cell := [codeS w.code, intsS w.ws, intsS w.ts, .i w.d, bufsS w.l, thsS e w.th, evsS w.ev, .i i, .i t.pc, .i t.r0, .i t.r1, .i t.r2, .i t.r3, .i t.r4, .i t.r5, .i t.r6, .i t.r7, frsS t.fs, .i t.st, .i t.fa, .ro t.lf.length 1 (e && emp t.lf) (slG encI t.lf), .i x.1, .i x.2.1, .i x.2.2.1, .i x.2.2.2]
abbrev wxC (w : Wd) (i : Int) (t : Th) (x : Ins) : List Cell := wxE true w i t x
abbrev wxB (w : Wd) (i : Int) (t : Th) (x : Ins) : List Blk := [.row 77 (wxC w i t x)]
abbrev anyW8 : List Blk := [.row 77 [.any, .any, .any, .any, .any, .any, .any, .any, .any, .any, .any, .any, .any, .any, .any, .any, .any, .any, .any, .any, .any, .any, .any, .any, .any]]
def N1 : List (Nat × FSpec) := (53, sMust) :: (121, sTLoad) :: (122, sTStore) :: (123, sTLock) :: (124, sMark) :: []
theorem N1_ok : GOK Tryz.prog (tab N1) := gok_cons must_ok (gok_cons tload_ok (gok_cons tstore_ok (gok_cons tlock_ok (gok_cons mark_ok (gok_nil _)))))
def sWLoadOk : FSpec := lentSpec 1 (Wk8) (fun (w, i, t, x) => [.c (.ptr 0 0)]) (fun (w, i, t, x) => wxB w i t x) (fun (w, i, t, x) => Small w.l ∧ Reg x.2.1 ∧ Reg x.2.2.1 ∧ ((loadT (tsoOf w) i (atOf t x)).2) = 0) (fun _ => .tup []) fun (w, i, t, x) => wxB (w) i (setRg t x.2.1 (loadT (tsoOf w) i (atOf t x)).1) x
def sWLoadBad : FSpec := lentPan 1 (Wk8) (fun (w, i, t, x) => [.c (.ptr 0 0)]) (fun (w, i, t, x) => wxB w i t x) (fun (w, i, t, x) => Small w.l ∧ Reg x.2.1 ∧ Reg x.2.2.1 ∧ ¬ ((loadT (tsoOf w) i (atOf t x)).2) = 0) (fun _ => anyW8) fun (w, i, t, x) => chF ((loadT (tsoOf w) i (atOf t x)).2)
set_option maxHeartbeats 1000000 in
set_option maxRecDepth 100000 in
theorem WLoadOk_ok : Meets Tryz.prog 73 sWLoadOk := by
  refine meets_lent 1 N1_ok rfl [] (fn := Tryz.f73) rfl rfl rfl (by decide) (fun _ => rfl) (fun _ => rfl) (by decide) fun ⟨w, i, t, op, a, b, c⟩ ⟨hs, ha, hb, he⟩ => ?_
  have ha : 0 ≤ a ∧ a ≤ 7 := ha
  have hb : 0 ≤ b ∧ b ≤ 7 := hb
  repeat' (first | exact @id (emp _ = true) | (intro h; first | exact Bool.noConfusion h | (simp only [Qn] at h) | skip) | ((conv => whnf) <;> (first | exact trivial | apply Qa | apply And.intro | exact absurd he (by assumption) | apply CallP.inl | (refine CutE.at (A := List Int × List Int × Int × List (List Put) × Int × Int) (w.ws, w.ts, w.d, w.l, i, atOf t (op, a, b, c)) ?_) | apply Qb | apply Qc | apply Qd | apply Qe | apply Qf | apply Qg | apply Qh | apply Qi | exact QA | exact QP | refine QG ?_ | apply Qj | apply Qk | apply Ql | apply Qm | apply Qo | apply Qp | apply Qw | apply Qv | apply Qu | apply Qt | apply Qs | apply Qr | apply Qq | apply Qx | apply wrapS | apply Qy | (with_reducible exact lenNil) | apply Eq.refl)) | ((with_reducible first | apply Y1 | apply Y2 | apply Y3 | show blkEq _ _ _); conv => whnf))
  all_goals first
    | omega
    | exact he.symm
    | exact he
    | exact hs
    | exact hs.1
    | exact hs.2 _
    | exact absurd he (by assumption)
    | exact absurd (by assumption) he
    | trace_state
set_option maxHeartbeats 1000000 in
set_option maxRecDepth 100000 in
theorem WLoadBad_ok : Meets Tryz.prog 73 sWLoadBad := by
  refine meets_lentPan 1 N1_ok rfl [] (fn := Tryz.f73) rfl rfl rfl (by decide) (fun _ => rfl) (fun _ => rfl) (by decide) fun ⟨w, i, t, op, a, b, c⟩ ⟨hs, ha, hb, he⟩ => ?_
  have ha : 0 ≤ a ∧ a ≤ 7 := ha
  have hb : 0 ≤ b ∧ b ≤ 7 := hb
  repeat' (first | exact @id (emp _ = true) | (intro h; first | exact Bool.noConfusion h | (simp only [Qn] at h) | skip) | ((conv => whnf) <;> (first | exact trivial | apply Qa | apply And.intro | exact absurd (by assumption) he | apply RegP.pan | apply CallP.inr | (refine CutE.at (A := List Int × List Int × Int × List (List Put) × Int × Int) (w.ws, w.ts, w.d, w.l, i, atOf t (op, a, b, c)) ?_) | apply Qb | apply Qc | apply Qd | apply Qe | apply Qf | apply Qg | apply Qh | apply Qi | exact QA | exact QP | refine QG ?_ | apply Qj | apply Qk | apply Ql | apply Qm | apply Qo | apply Qp | apply Qw | apply Qv | apply Qu | apply Qt | apply Qs | apply Qr | apply Qq | apply Qx | apply wrapS | apply Qy | (with_reducible exact lenNil) | apply Eq.refl)) | ((with_reducible first | apply Y1 | apply Y2 | apply Y3 | show blkEq _ _ _); conv => whnf))
  all_goals first
    | omega
    | exact he.symm
    | exact he
    | exact hs
    | exact hs.1
    | exact hs.2 _
    | exact absurd he (by assumption)
    | exact absurd (by assumption) he
    | trace_state
def sWLoad : FSpec := sWLoadOk.or sWLoadBad
theorem WLoad_ok : Meets Tryz.prog 73 sWLoad := meets_or WLoadOk_ok WLoadBad_ok
def sWStoreOk : FSpec := lentSpec 1 (Wk8) (fun (w, i, t, x) => [.c (.ptr 0 0)]) (fun (w, i, t, x) => wxB w i t x) (fun (w, i, t, x) => Small w.l ∧ Reg x.2.1 ∧ Reg x.2.2.1 ∧ ((storeT (tsoOf w) i (atOf t x) (getR t x.2.1)).2) = 0) (fun _ => .tup []) fun (w, i, t, x) => wxB (setM w (storeT (tsoOf w) i (atOf t x) (getR t x.2.1)).1) i (t) x
def sWStoreBad : FSpec := lentPan 1 (Wk8) (fun (w, i, t, x) => [.c (.ptr 0 0)]) (fun (w, i, t, x) => wxB w i t x) (fun (w, i, t, x) => Small w.l ∧ Reg x.2.1 ∧ Reg x.2.2.1 ∧ ¬ ((storeT (tsoOf w) i (atOf t x) (getR t x.2.1)).2) = 0) (fun _ => anyW8) fun (w, i, t, x) => chF ((storeT (tsoOf w) i (atOf t x) (getR t x.2.1)).2)
set_option maxHeartbeats 1000000 in
set_option maxRecDepth 100000 in
theorem WStoreOk_ok : Meets Tryz.prog 74 sWStoreOk := by
  refine meets_lent 1 N1_ok rfl [] (fn := Tryz.f74) rfl rfl rfl (by decide) (fun _ => rfl) (fun _ => rfl) (by decide) fun ⟨w, i, t, op, a, b, c⟩ ⟨hs, ha, hb, he⟩ => ?_
  have ha : 0 ≤ a ∧ a ≤ 7 := ha
  have hb : 0 ≤ b ∧ b ≤ 7 := hb
  repeat' (first | exact @id (emp _ = true) | (intro h; first | exact Bool.noConfusion h | (simp only [Qn] at h) | skip) | ((conv => whnf) <;> (first | exact trivial | apply Qa | apply And.intro | exact absurd he (by assumption) | apply CallP.inl | (refine CutE.at (A := List Int × List Int × Int × List (List Put) × Int × Int × Int) (w.ws, w.ts, w.d, w.l, i, atOf t (op, a, b, c), getR t a) ?_) | apply Qb | apply Qc | apply Qd | apply Qe | apply Qf | apply Qg | apply Qh | apply Qi | exact QA | exact QP | refine QG ?_ | apply Qj | apply Qk | apply Ql | apply Qm | apply Qo | apply Qp | apply Qw | apply Qv | apply Qu | apply Qt | apply Qs | apply Qr | apply Qq | apply Qx | apply wrapS | apply Qy | (with_reducible exact lenNil) | apply Eq.refl)) | ((with_reducible first | apply Y1 | apply Y2 | apply Y3 | show blkEq _ _ _); conv => whnf))
  all_goals first
    | omega
    | exact he.symm
    | exact he
    | exact hs
    | exact hs.1
    | exact hs.2 _
    | exact absurd he (by assumption)
    | exact absurd (by assumption) he
    | trace_state
set_option maxHeartbeats 1000000 in
set_option maxRecDepth 100000 in
theorem WStoreBad_ok : Meets Tryz.prog 74 sWStoreBad := by
  refine meets_lentPan 1 N1_ok rfl [] (fn := Tryz.f74) rfl rfl rfl (by decide) (fun _ => rfl) (fun _ => rfl) (by decide) fun ⟨w, i, t, op, a, b, c⟩ ⟨hs, ha, hb, he⟩ => ?_
  have ha : 0 ≤ a ∧ a ≤ 7 := ha
  have hb : 0 ≤ b ∧ b ≤ 7 := hb
  repeat' (first | exact @id (emp _ = true) | (intro h; first | exact Bool.noConfusion h | (simp only [Qn] at h) | skip) | ((conv => whnf) <;> (first | exact trivial | apply Qa | apply And.intro | exact absurd (by assumption) he | apply RegP.pan | apply CallP.inr | (refine CutE.at (A := List Int × List Int × Int × List (List Put) × Int × Int × Int) (w.ws, w.ts, w.d, w.l, i, atOf t (op, a, b, c), getR t a) ?_) | apply Qb | apply Qc | apply Qd | apply Qe | apply Qf | apply Qg | apply Qh | apply Qi | exact QA | exact QP | refine QG ?_ | apply Qj | apply Qk | apply Ql | apply Qm | apply Qo | apply Qp | apply Qw | apply Qv | apply Qu | apply Qt | apply Qs | apply Qr | apply Qq | apply Qx | apply wrapS | apply Qy | (with_reducible exact lenNil) | apply Eq.refl)) | ((with_reducible first | apply Y1 | apply Y2 | apply Y3 | show blkEq _ _ _); conv => whnf))
  all_goals first
    | omega
    | exact he.symm
    | exact he
    | exact hs
    | exact hs.1
    | exact hs.2 _
    | exact absurd he (by assumption)
    | exact absurd (by assumption) he
    | trace_state
def sWStore : FSpec := sWStoreOk.or sWStoreBad
theorem WStore_ok : Meets Tryz.prog 74 sWStore := meets_or WStoreOk_ok WStoreBad_ok
def sWMarkOk : FSpec := lentSpec 1 (Wd × Int × Th × Ins × Int) (fun (w, i, t, x, tag) => [.c (.ptr 0 0), .i tag]) (fun (w, i, t, x, tag) => wxB w i t x) (fun (w, i, t, x, tag) => True ∧ Reg x.2.1 ∧ Reg x.2.2.1 ∧ ((markF w.ws w.ts (getR t x.2.1) (getR t x.2.2.1) tag).2) = 0) (fun _ => .tup []) fun (w, i, t, x, tag) => wxB (setMem w (markF w.ws w.ts (getR t x.2.1) (getR t x.2.2.1) tag).1) i (t) x
def sWMarkBad : FSpec := lentPan 1 (Wd × Int × Th × Ins × Int) (fun (w, i, t, x, tag) => [.c (.ptr 0 0), .i tag]) (fun (w, i, t, x, tag) => wxB w i t x) (fun (w, i, t, x, tag) => True ∧ Reg x.2.1 ∧ Reg x.2.2.1 ∧ ¬ ((markF w.ws w.ts (getR t x.2.1) (getR t x.2.2.1) tag).2) = 0) (fun _ => anyW8) fun (w, i, t, x, tag) => chF ((markF w.ws w.ts (getR t x.2.1) (getR t x.2.2.1) tag).2)
set_option maxHeartbeats 1000000 in
set_option maxRecDepth 100000 in
theorem WMarkOk_ok : Meets Tryz.prog 77 sWMarkOk := by
  refine meets_lent 1 N1_ok rfl [] (fn := Tryz.f77) rfl rfl rfl (by decide) (fun _ => rfl) (fun _ => rfl) (by decide) fun ⟨w, i, t, ⟨op, a, b, c⟩, tag⟩ ⟨hs, ha, hb, he⟩ => ?_
  have ha : 0 ≤ a ∧ a ≤ 7 := ha
  have hb : 0 ≤ b ∧ b ≤ 7 := hb
  repeat' (first | exact @id (emp _ = true) | (intro h; first | exact Bool.noConfusion h | (simp only [Qn] at h) | skip) | ((conv => whnf) <;> (first | exact trivial | apply Qa | apply And.intro | exact absurd he (by assumption) | apply CallP.inl | (refine CutE.at (A := List Int × List Int × Int × Int × Int) (w.ws, w.ts, getR t a, getR t b, tag) ?_) | apply Qb | apply Qc | apply Qd | apply Qe | apply Qf | apply Qg | apply Qh | apply Qi | exact QA | exact QP | refine QG ?_ | apply Qj | apply Qk | apply Ql | apply Qm | apply Qo | apply Qp | apply Qw | apply Qv | apply Qu | apply Qt | apply Qs | apply Qr | apply Qq | apply Qx | apply wrapS | apply Qy | (with_reducible exact lenNil) | apply Eq.refl)) | ((with_reducible first | apply Y1 | apply Y2 | apply Y3 | show blkEq _ _ _); conv => whnf))
  all_goals first
    | omega
    | exact he.symm
    | exact he
    | exact hs
    | exact hs.1
    | exact hs.2 _
    | exact absurd he (by assumption)
    | exact absurd (by assumption) he
    | trace_state
set_option maxHeartbeats 1000000 in
set_option maxRecDepth 100000 in
theorem WMarkBad_ok : Meets Tryz.prog 77 sWMarkBad := by
  refine meets_lentPan 1 N1_ok rfl [] (fn := Tryz.f77) rfl rfl rfl (by decide) (fun _ => rfl) (fun _ => rfl) (by decide) fun ⟨w, i, t, ⟨op, a, b, c⟩, tag⟩ ⟨hs, ha, hb, he⟩ => ?_
  have ha : 0 ≤ a ∧ a ≤ 7 := ha
  have hb : 0 ≤ b ∧ b ≤ 7 := hb
  repeat' (first | exact @id (emp _ = true) | (intro h; first | exact Bool.noConfusion h | (simp only [Qn] at h) | skip) | ((conv => whnf) <;> (first | exact trivial | apply Qa | apply And.intro | exact absurd (by assumption) he | apply RegP.pan | apply CallP.inr | (refine CutE.at (A := List Int × List Int × Int × Int × Int) (w.ws, w.ts, getR t a, getR t b, tag) ?_) | apply Qb | apply Qc | apply Qd | apply Qe | apply Qf | apply Qg | apply Qh | apply Qi | exact QA | exact QP | refine QG ?_ | apply Qj | apply Qk | apply Ql | apply Qm | apply Qo | apply Qp | apply Qw | apply Qv | apply Qu | apply Qt | apply Qs | apply Qr | apply Qq | apply Qx | apply wrapS | apply Qy | (with_reducible exact lenNil) | apply Eq.refl)) | ((with_reducible first | apply Y1 | apply Y2 | apply Y3 | show blkEq _ _ _); conv => whnf))
  all_goals first
    | omega
    | exact he.symm
    | exact he
    | exact hs
    | exact hs.1
    | exact hs.2 _
    | exact absurd he (by assumption)
    | exact absurd (by assumption) he
    | trace_state
def sWMark : FSpec := sWMarkOk.or sWMarkBad
theorem WMark_ok : Meets Tryz.prog 77 sWMark := meets_or WMarkOk_ok WMarkBad_ok
def sWLockOk : FSpec := lentSpec 1 (Wd × Int × Th × Ins × Int × Int) (fun (w, i, t, x, k, m) => [.c (.ptr 0 0), .i k, .i m]) (fun (w, i, t, x, k, m) => wxB w i t x) (fun (w, i, t, x, k, m) => Small w.l ∧ Reg x.2.1 ∧ Reg x.2.2.1 ∧ ((lockT (tsoOf w) i k (getR t x.2.2.1) (getR t x.2.1) m).2.2) = 0) (fun _ => .tup []) fun (w, i, t, x, k, m) => wxB (setM w (lockT (tsoOf w) i k (getR t x.2.2.1) (getR t x.2.1) m).1) i (setRg t x.2.1 (lockT (tsoOf w) i k (getR t x.2.2.1) (getR t x.2.1) m).2.1) x
def sWLockBad : FSpec := lentPan 1 (Wd × Int × Th × Ins × Int × Int) (fun (w, i, t, x, k, m) => [.c (.ptr 0 0), .i k, .i m]) (fun (w, i, t, x, k, m) => wxB w i t x) (fun (w, i, t, x, k, m) => Small w.l ∧ Reg x.2.1 ∧ Reg x.2.2.1 ∧ ¬ ((lockT (tsoOf w) i k (getR t x.2.2.1) (getR t x.2.1) m).2.2) = 0) (fun _ => anyW8) fun (w, i, t, x, k, m) => chF ((lockT (tsoOf w) i k (getR t x.2.2.1) (getR t x.2.1) m).2.2)
set_option maxHeartbeats 1000000 in
set_option maxRecDepth 100000 in
theorem WLockOk_ok : Meets Tryz.prog 75 sWLockOk := by
  refine meets_lent 1 N1_ok rfl [] (fn := Tryz.f75) rfl rfl rfl (by decide) (fun _ => rfl) (fun _ => rfl) (by decide) fun ⟨w, i, t, ⟨op, a, b, c⟩, k, m⟩ ⟨hs, ha, hb, he⟩ => ?_
  have ha : 0 ≤ a ∧ a ≤ 7 := ha
  have hb : 0 ≤ b ∧ b ≤ 7 := hb
  repeat' (first | exact @id (emp _ = true) | (intro h; first | exact Bool.noConfusion h | (simp only [Qn] at h) | skip) | ((conv => whnf) <;> (first | exact trivial | apply Qa | apply And.intro | exact absurd he (by assumption) | apply CallP.inl | (refine CutE.at (A := List Int × List Int × Int × List (List Put) × Int × Int × Int × Int × Int) (w.ws, w.ts, w.d, w.l, i, k, getR t b, getR t a, m) ?_) | apply Qb | apply Qc | apply Qd | apply Qe | apply Qf | apply Qg | apply Qh | apply Qi | exact QA | exact QP | refine QG ?_ | apply Qj | apply Qk | apply Ql | apply Qm | apply Qo | apply Qp | apply Qw | apply Qv | apply Qu | apply Qt | apply Qs | apply Qr | apply Qq | apply Qx | apply wrapS | apply Qy | (with_reducible exact lenNil) | apply Eq.refl)) | ((with_reducible first | apply Y1 | apply Y2 | apply Y3 | show blkEq _ _ _); conv => whnf))
  all_goals first
    | omega
    | exact he.symm
    | exact he
    | exact hs
    | exact hs.1
    | exact hs.2 _
    | exact absurd he (by assumption)
    | exact absurd (by assumption) he
    | trace_state
set_option maxHeartbeats 1000000 in
set_option maxRecDepth 100000 in
theorem WLockBad_ok : Meets Tryz.prog 75 sWLockBad := by
  refine meets_lentPan 1 N1_ok rfl [] (fn := Tryz.f75) rfl rfl rfl (by decide) (fun _ => rfl) (fun _ => rfl) (by decide) fun ⟨w, i, t, ⟨op, a, b, c⟩, k, m⟩ ⟨hs, ha, hb, he⟩ => ?_
  have ha : 0 ≤ a ∧ a ≤ 7 := ha
  have hb : 0 ≤ b ∧ b ≤ 7 := hb
  repeat' (first | exact @id (emp _ = true) | (intro h; first | exact Bool.noConfusion h | (simp only [Qn] at h) | skip) | ((conv => whnf) <;> (first | exact trivial | apply Qa | apply And.intro | exact absurd (by assumption) he | apply RegP.pan | apply CallP.inr | (refine CutE.at (A := List Int × List Int × Int × List (List Put) × Int × Int × Int × Int × Int) (w.ws, w.ts, w.d, w.l, i, k, getR t b, getR t a, m) ?_) | apply Qb | apply Qc | apply Qd | apply Qe | apply Qf | apply Qg | apply Qh | apply Qi | exact QA | exact QP | refine QG ?_ | apply Qj | apply Qk | apply Ql | apply Qm | apply Qo | apply Qp | apply Qw | apply Qv | apply Qu | apply Qt | apply Qs | apply Qr | apply Qq | apply Qx | apply wrapS | apply Qy | (with_reducible exact lenNil) | apply Eq.refl)) | ((with_reducible first | apply Y1 | apply Y2 | apply Y3 | show blkEq _ _ _); conv => whnf))
  all_goals first
    | omega
    | exact he.symm
    | exact he
    | exact hs
    | exact hs.1
    | exact hs.2 _
    | exact absurd he (by assumption)
    | exact absurd (by assumption) he
    | trace_state
def sWLock : FSpec := sWLockOk.or sWLockBad
theorem WLock_ok : Meets Tryz.prog 75 sWLock := meets_or WLockOk_ok WLockBad_ok
end Go.Eng
namespace Go.Eng
open Go Go.Proofs
def sCloneTh : FSpec := lentSpec 0 (List Th) (fun l => [.c (thsS true l)]) (fun _ => []) (fun l => l.length ≤ 1000000) (fun _ => .c (.osl 0)) fun l => [.slc 44 13 l.length (slG (thE true) l)]
set_option maxHeartbeats 2000000 in
set_option maxRecDepth 100000 in
theorem cloneTh_ok : Meets Tryz.prog 102 sCloneTh := by
  refine meets_lent 1 (gok_nil _) rfl [] (fn := Tryz.f102) rfl rfl rfl (by decide) (fun _ => rfl) (fun _ => rfl) (by decide) fun l hl => ?_
  repeat' (first | exact @id (emp _ = true) | (intro h; first | exact Bool.noConfusion h | (simp only [Qn] at h) | skip) | ((conv => whnf) <;> (first | exact trivial | apply Qa | apply And.intro | (refine EntP.at [⟨false, 0, 0, 44, 13⟩] [0] ?_; (conv => whnf); fail_if_success (show False)) | apply Qb | apply Qc | apply Qd | apply Qe | apply Qf | apply Qg | apply Qh | apply Qi | exact QA | exact QP | refine QG ?_ | apply Qj | apply Qk | apply Ql | apply Qm | apply Qo | apply Qp | apply Qw | apply Qv | apply Qu | apply Qt | apply Qs | apply Qr | apply Qq | apply Qx | apply wrapS | apply Qy | (with_reducible exact lenNil) | apply Eq.refl)) | ((with_reducible first | apply Y1 | apply Y2 | apply Y3 | show blkEq _ _ _); conv => whnf))
  all_goals have hl : l.length ≤ 1000000 := hl
  all_goals try simp only at *
  all_goals first
    | omega
    | (show (0 + l.length) * 136 ≤ _; omega)
    | trace_state
def sCloneI : FSpec := lentSpec 0 (List Int) (fun l => [.c (intsS l)]) (fun _ => []) (fun l => l.length ≤ 1000000) (fun _ => .c (.osl 0)) fun l => [.slc 3 1 l.length (slG (encI) l)]
set_option maxHeartbeats 2000000 in
set_option maxRecDepth 100000 in
theorem cloneI_ok : Meets Tryz.prog 103 sCloneI := by
  refine meets_lent 1 (gok_nil _) rfl [] (fn := Tryz.f103) rfl rfl rfl (by decide) (fun _ => rfl) (fun _ => rfl) (by decide) fun l hl => ?_
  repeat' (first | exact @id (emp _ = true) | (intro h; first | exact Bool.noConfusion h | (simp only [Qn] at h) | skip) | ((conv => whnf) <;> (first | exact trivial | apply Qa | apply And.intro | (refine EntP.at [⟨false, 0, 0, 3, 1⟩] [0] ?_; (conv => whnf); fail_if_success (show False)) | apply Qb | apply Qc | apply Qd | apply Qe | apply Qf | apply Qg | apply Qh | apply Qi | exact QA | exact QP | refine QG ?_ | apply Qj | apply Qk | apply Ql | apply Qm | apply Qo | apply Qp | apply Qw | apply Qv | apply Qu | apply Qt | apply Qs | apply Qr | apply Qq | apply Qx | apply wrapS | apply Qy | (with_reducible exact lenNil) | apply Eq.refl)) | ((with_reducible first | apply Y1 | apply Y2 | apply Y3 | show blkEq _ _ _); conv => whnf))
  all_goals have hl : l.length ≤ 1000000 := hl
  all_goals try simp only at *
  all_goals first
    | omega
    | (show (0 + l.length) * 8 ≤ _; omega)
    | trace_state
def O1 : List (Nat × FSpec) := [(102, sCloneTh), (103, sCloneI)]
theorem O1_ok : GOK Tryz.prog (tab O1) := gok_cons cloneTh_ok (gok_cons cloneI_ok (gok_nil _))
def sWPut : FSpec := lentSpec 1 Wk8 (fun _ => [.c (.ptr 0 0)]) (fun (w, i, t, x) => wxB w i t x) (fun (w, i, _, _) => (0 ≤ i ∧ i < w.th.length) ∧ w.th.length ≤ 1000000) (fun _ => .tup []) fun (w, i, t, x) => wxB (putW w i t) i t x
set_option maxHeartbeats 2000000 in
set_option maxRecDepth 100000 in
theorem wput_ok : Meets Tryz.prog 71 sWPut := by
  refine meets_lent 1 O1_ok rfl [] (fn := Tryz.f71) rfl rfl rfl (by decide) (fun _ => rfl) (fun _ => rfl) (by decide) fun ⟨w, i, t, op, a, b, c⟩ ⟨hi, hl⟩ => ?_
  have hi : 0 ≤ i ∧ i < w.th.length := hi
  have hl : w.th.length ≤ 1000000 := hl
  have e1 : withT w.th i t = w.th.set i.toNat t := if_pos hi.1
  have e2 : (putW w i t).th.length = w.th.length := withT_len _ _ _
  repeat' (first | exact @id (emp _ = true) | (intro h; first | exact Bool.noConfusion h | (simp only [Qn] at h) | skip) | ((conv => whnf) <;> (first | exact trivial | apply Qa | apply And.intro | (refine CutE.at (A := List Th) w.th ?_) | (refine EntP.at [⟨true, 0, 5, 0, 0⟩] [0] ?_) | apply Qb | apply Qc | apply Qd | apply Qe | apply Qf | apply Qg | apply Qh | apply Qi | exact QA | exact QP | refine QG ?_ | apply Qj | apply Qk | apply Ql | apply Qm | apply Qo | apply Qp | apply Qw | apply Qv | apply Qu | apply Qt | apply Qs | apply Qr | apply Qq | apply Qx | apply wrapS | apply Qy | (with_reducible exact lenNil) | apply Eq.refl)) | ((with_reducible first | apply Y1 | apply Y2 | apply Y3 | show blkEq _ _ _); conv => whnf))
  all_goals first
    | omega
    | (show i.toNat < w.th.length; omega)
    | exact hl
    | (show i < (w.th.length : Int); omega)
    | (have hq := ‹_ < (putW w i t).th.length›
       rw [e2] at hq
       show slG (thE true) (withT w.th i t) _ _ = _
       rw [e1]
       exact (slG_set (enc := thE true) (k := 13) (l := w.th) (x := t) (fun _ => rfl) (by omega) _ hq _ (by assumption)).symm)
    | trace_state
def broadT (w : Wd) (t : Th) : Th := if 0 < t.lf.length then leftT t [] else leftT (setPc t (IntKind.i64.wrap (t.pc - 1))) (waits w)
def sWBroad : FSpec := lentSpec 1 Wk8 (fun _ => [.c (.ptr 0 0)]) (fun (w, i, t, x) => wxB w i t x) (fun (w, _, _, _) => 1 ≤ w.l.length ∧ w.l.length ≤ 8) (fun _ => .tup []) fun (w, i, t, x) => wxB w i (broadT w t) x
set_option maxHeartbeats 2000000 in
set_option maxRecDepth 100000 in
theorem wbroad_ok : Meets Tryz.prog 76 sWBroad := by
  refine meets_lent 1 (gok_nil _) rfl [] (fn := Tryz.f76) rfl rfl rfl (by decide) (fun _ => rfl) (fun _ => rfl) (by decide) fun ⟨w, i, ⟨pc, r0, r1, r2, r3, r4, r5, r6, r7, fs, st, fa, lf⟩, op, a, b, c⟩ ⟨hl1, hl8⟩ => ?_
  have hl1 : 1 ≤ w.l.length := hl1
  have hl8 : w.l.length ≤ 8 := hl8
  cases lf with
  | cons y lf =>
    have e1 : sWBroad.post ⟨w, i, ⟨pc, r0, r1, r2, r3, r4, r5, r6, r7, fs, st, fa, y :: lf⟩, op, a, b, c⟩ = numB 0 (wxB w i ⟨pc, r0, r1, r2, r3, r4, r5, r6, r7, fs, st, fa, []⟩ (op, a, b, c)) := rfl
    show bodyK Tryz.prog _ _ _ _ sWBroad _
    unfold bodyK retE
    rw [e1]
    clear e1
    repeat' (first | exact @id (emp _ = true) | (intro h; first | exact Bool.noConfusion h | (simp only [Qn] at h) | skip) | ((conv => whnf) <;> (first | exact trivial | apply Qa | apply And.intro | apply Qb | apply Qc | apply Qd | apply Qe | apply Qf | apply Qg | apply Qh | apply Qi | exact QA | exact QP | refine QG ?_ | apply Qj | apply Qk | apply Ql | apply Qm | apply Qo | apply Qp | apply Qw | apply Qv | apply Qu | apply Qt | apply Qs | apply Qr | apply Qq | apply Qx | apply wrapS | apply Qy | (with_reducible exact lenNil) | apply Eq.refl)) | ((with_reducible first | apply Y1 | apply Y2 | apply Y3 | show blkEq _ _ _); conv => whnf))
    all_goals first
      | omega
      | (exfalso; have hq : ¬ (((y :: lf).length : Nat) : Int) > 0 := by assumption
         rw [List.length_cons] at hq; omega)
      | trace_state
  | nil =>
    have hw := waits_emp (w := w) hl1
    have hwl : (waits w).length = w.l.length := by unfold waits; simp
    have e1 : sWBroad.post ⟨w, i, ⟨pc, r0, r1, r2, r3, r4, r5, r6, r7, fs, st, fa, []⟩, op, a, b, c⟩ = numB 0 (wxB w i ⟨IntKind.i64.wrap (pc - 1), r0, r1, r2, r3, r4, r5, r6, r7, fs, st, fa, waits w⟩ (op, a, b, c)) := rfl
    show bodyK Tryz.prog _ _ _ _ sWBroad _
    unfold bodyK retE
    rw [e1]
    clear e1
    repeat' (first | exact @id (emp _ = true) | (intro h; first | exact Bool.noConfusion h | (simp only [Qn] at h) | skip) | ((conv => whnf) <;> (first | exact trivial | apply Qa | apply And.intro | apply Qb | apply Qc | apply Qd | apply Qe | apply Qf | apply Qg | apply Qh | apply Qi | exact QA | exact QP | refine QG ?_ | apply Qj | apply Qk | apply Ql | apply Qm | apply Qo | apply Qp | apply Qw | apply Qv | apply Qu | apply Qt | apply Qs | apply Qr | apply Qq | apply Qx | apply wrapS | apply Qy | (with_reducible exact lenNil) | apply Eq.refl)) | ((with_reducible first | apply Y1 | apply Y2 | apply Y3 | show blkEq _ _ _); conv => whnf))
    all_goals try (exfalso; exact absurd (by assumption) (show ¬ (([] : List Int).length : Int) > 0 by decide))
    apply LoopP.up (G := Nat) (fun k => k ≤ w.l.length) [0, 29, 30, 31] (fun k => [(31, .i k)]) (fun k => match k with
      | 0 => [(0, .row 77 (wxC w i ⟨IntKind.i64.wrap (pc - 1), r0, r1, r2, r3, r4, r5, r6, r7, fs, st, fa, []⟩ (op, a, b, c)))]
      | k + 1 => [(0, .row 77 ((wxC w i ⟨IntKind.i64.wrap (pc - 1), r0, r1, r2, r3, r4, r5, r6, r7, fs, st, fa, []⟩ (op, a, b, c)).set 20 (.osl 1))), (1, .slc 3 1 (k + 1) (slG encI ((waits w).take (k + 1))))]) 2 (fun k => w.l.length - k)
    apply And.intro
    · refine CutE.at 0 ?_
      repeat' (first | exact @id (emp _ = true) | (intro h; first | exact Bool.noConfusion h | (simp only [Qn] at h) | skip) | ((conv => whnf) <;> (first | exact trivial | apply Qa | apply And.intro | apply EntP.id 2 | apply Qb | apply Qc | apply Qd | apply Qe | apply Qf | apply Qg | apply Qh | apply Qi | exact QA | exact QP | refine QG ?_ | apply Qj | apply Qk | apply Ql | apply Qm | apply Qo | apply Qp | apply Qw | apply Qv | apply Qu | apply Qt | apply Qs | apply Qr | apply Qq | apply Qx | apply wrapS | apply Qy | (with_reducible exact lenNil) | apply Eq.refl)) | ((with_reducible first | apply Y1 | apply Y2 | apply Y3 | show blkEq _ _ _); conv => whnf))
      all_goals try simp only [Int.toNat_natCast, Int.toNat_zero, ge_iff_le, gt_iff_lt, Int.ofNat_le, Int.ofNat_lt, Int.ofNat_inj] at *
      all_goals first
        | omega
        | (dsimp only; omega)
        | assumption
        | exact Up.zero _
        | (show ((8 : Nat) : Int) * _ ≤ _; omega)
        | (show _ * (8 : Nat) ≤ _; omega)
        | (show _ * (16 : Nat) ≤ _; omega)
        | (show _ * (24 : Nat) ≤ _; omega)
        | trace_state
    · intro k hk
      have hx : k < w.l.length → (waits w).getD k default = ((w.l.getD k default).length : Int) := fun hk => by
        unfold waits
        rw [List.getD_eq_getElem?_getD, List.getElem?_map, List.getD_eq_getElem?_getD, List.getElem?_eq_getElem hk]; rfl
      cases k with
      | zero =>
        repeat' (first | exact @id (emp _ = true) | (intro h; first | exact Bool.noConfusion h | (simp only [Qn] at h) | skip) | ((conv => whnf) <;> (first | exact trivial | apply Qa | apply And.intro | refine CutE.at (A := Nat) 1 ?_ | (refine EntP.at (n := 2) [] [0, 3] ?_) | (exfalso; omega) | apply Qb | apply Qc | apply Qd | apply Qe | apply Qf | apply Qg | apply Qh | apply Qi | exact QA | exact QP | refine QG ?_ | apply Qj | apply Qk | apply Ql | apply Qm | apply Qo | apply Qp | apply Qw | apply Qv | apply Qu | apply Qt | apply Qs | apply Qr | apply Qq | apply Qx | apply wrapS | apply Qy | (with_reducible exact lenNil) | apply Eq.refl)) | ((with_reducible first | apply Y1 | apply Y2 | apply Y3 | show blkEq _ _ _); conv => whnf))
        all_goals first
          | omega
          | decide
          | (show (0 + 1 : Nat) ≤ 9223372036854775807; omega)
          | (show (0 + 1 : Nat) * 8 ≤ 140737488355328; omega)
          | (show w.l.length - 1 < w.l.length - 0; omega)
          | (show 1 ≤ w.l.length; omega)
          | (refine slG_take1 (L := waits w) (k := 0) (q := 1) (by omega) rfl (by assumption) (by assumption) ?_
             rw [hx (by omega)] <;> rfl)
          | trace_state
      | succ k =>
        repeat' (first | exact @id (emp _ = true) | (intro h; first | exact Bool.noConfusion h | (simp only [Qn] at h) | skip) | ((conv => whnf) <;> (first | exact trivial | apply Qa | apply And.intro | refine CutE.at (A := Nat) (k + 2) ?_ | (refine EntP.at (n := 2) [] [0, 3] ?_) | (refine EntP.at [⟨true, 0, 20, 0, 0⟩] [0] ?_) | apply Qb | apply Qc | apply Qd | apply Qe | apply Qf | apply Qg | apply Qh | apply Qi | exact QA | exact QP | refine QG ?_ | apply Qj | apply Qk | apply Ql | apply Qm | apply Qo | apply Qp | apply Qw | apply Qv | apply Qu | apply Qt | apply Qs | apply Qr | apply Qq | apply Qx | apply wrapS | apply Qy | (with_reducible exact lenNil) | apply Eq.refl)) | ((with_reducible first | apply Y1 | apply Y2 | apply Y3 | show blkEq _ _ _); conv => whnf))
        all_goals try simp only [Int.toNat_natCast] at *
        all_goals first
          | omega
          | (show (k + 1 + 1) * 8 ≤ _; omega)
          | (show w.l.length - (k + 2) < w.l.length - (k + 1); omega)
          | (show k + 2 ≤ w.l.length; omega)
          | (refine slG_take1 (L := waits w) (k := k + 1) (q := 1) (by omega) rfl (by assumption) (by assumption) ?_
             rw [hx (by omega)] <;> rfl)
          | (show (waits w).length = k + 1; omega)
          | exact slG_all (L := waits w) (by omega)
          | (rw [hw] at h; exact h)
          | (have hq : emp (waits w) = true := h; rw [hw] at hq; cases hq)
          | trace_state
end Go.Eng
