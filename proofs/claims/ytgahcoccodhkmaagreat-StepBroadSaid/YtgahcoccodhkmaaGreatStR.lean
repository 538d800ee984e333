/- A part of the walks, and of the machine that proves them (StR). -/
import Derived.Test.YtgahcoccodhkmaaGreatStM
import Derived.Test.YtgahcoccodhkmaaGreatLoJ
set_option linter.unusedVariables false
set_option linter.unusedSimpArgs false
namespace Go.Eng
open Go Go.Proofs
def sClipEv : FSpec := spec (List Ev) (fun l => [.c (evsS l)]) (fun l => l.length ≤ 1000000) fun l => .c (.ro l.length 6 true (slG encEv l))
set_option maxHeartbeats 1000000 in
set_option maxRecDepth 100000 in
theorem clipEv_ok : Meets Tryz.prog 78 sClipEv := by
  refine meets_plain (gok_nil _) rfl [] (fn := Tryz.f78) rfl rfl rfl (by decide) fun l hl => ?_
  have hl : l.length ≤ 1000000 := hl
  repeat' (first | exact @id (emp _ = true) | (intro h; first | exact Bool.noConfusion h | (simp only [Qn] at h) | skip) | ((conv => whnf) <;> (first | exact trivial | apply Qa | apply And.intro | apply Qb | apply Qc | apply Qd | apply Qe | apply Qf | apply Qg | apply Qh | apply Qi | exact QA | exact QP | refine QG ?_ | apply Qj | apply Qk | apply Ql | apply Qm | apply Qo | apply Qp | apply Qw | apply Qv | apply Qu | apply Qt | apply Qs | apply Qr | apply Qq | apply Qx | apply wrapS | apply Qy | (with_reducible exact lenNil) | apply Eq.refl)) | ((with_reducible first | apply Y1 | apply Y2 | apply Y3 | show blkEq _ _ _); conv => whnf))
  all_goals first
    | omega
    | (show slG encEv l _ _ = slG encEv l (0 + _) _; rw [Nat.zero_add])
    | trace_state
abbrev mkT (w : Wd) (t : Th) (x : Ins) (tag : Int) : (List Int × List Int) × Int := markF w.ws w.ts (getR t x.2.1) (getR t x.2.2.1) tag
abbrev lkT (w : Wd) (i : Int) (t : Th) (x : Ins) (k m : Int) : Tso × Int × Int := lockT (tsoOf w) i k (getR t x.2.2.1) (getR t x.2.1) m
abbrev apX (i : Int) (t : Th) (x : Ins) : Th × Int := apF t i x.1 x.2.1 x.2.2.1 x.2.2.2
/-- What an instruction does: the world, the thread, the error. -/
def workX (w : Wd) (i : Int) (t : Th) (x : Ins) : (Wd × Th) × Int :=
  if 1 ≤ x.1 ∧ x.1 ≤ 15 then ((w, (apX i t x).1), (apX i t x).2)
  else if x.1 = 0 then ((w, stT t 1), 0)
  else if x.1 = 16 then ((w, setRg (nextT t) x.2.1 (loadT (tsoOf w) i (atOf t x)).1), (loadT (tsoOf w) i (atOf t x)).2)
  else if x.1 = 17 then ((setM w (storeT (tsoOf w) i (atOf t x) (getR t x.2.1)).1, nextT t), (storeT (tsoOf w) i (atOf t x) (getR t x.2.1)).2)
  else if x.1 = 19 then ((setM w (lkT w i t x 0 (getR t x.2.2.2)).1, setRg (nextT t) x.2.1 (lkT w i t x 0 (getR t x.2.2.2)).2.1), (lkT w i t x 0 (getR t x.2.2.2)).2.2)
  else if x.1 = 20 then ((setM w (lkT w i t x 1 0).1, setRg (nextT t) x.2.1 (lkT w i t x 1 0).2.1), (lkT w i t x 1 0).2.2)
  else if x.1 = 21 then ((setM w (lkT w i t x 2 0).1, setRg (nextT t) x.2.1 (lkT w i t x 2 0).2.1), (lkT w i t x 2 0).2.2)
  else if x.1 = 22 then ((w, broadT w (nextT t)), 0)
  else if x.1 = 24 then ((setMem w (mkT w t x 1).1, nextT t), (mkT w t x 1).2)
  else if x.1 = 25 then ((setMem w (mkT w t x 2).1, nextT t), (mkT w t x 2).2)
  else if x.1 = 26 then ((evW w (evOf i t x), nextT t), 0)
  else if x.1 = 27 then ((w, nextT t), 3)
  else ((w, nextT t), 0)
structure DoPre (w : Wd) (t : Th) (x : Ins) : Prop where
  fl : Small w.l
  fn : 1 ≤ w.l.length ∧ w.l.length ≤ 8
  ft : SmallT t
  fp : 0 ≤ t.pc ∧ t.pc ≤ 1000
  fe : w.ev.length ≤ 1000000
  fo : 0 ≤ x.1 ∧ x.1 ≤ 27
  fr : (x.1 = 16 ∨ x.1 = 17 ∨ x.1 = 19 ∨ x.1 = 20 ∨ x.1 = 21 ∨ x.1 = 24 ∨ x.1 = 25) → Reg x.2.1 ∧ Reg x.2.2.1
  fr2 : x.1 = 19 → Reg x.2.2.2
def R81 : List (Nat × FSpec) := (78, sClipEv) :: (72, sApply) :: (73, sWLoad) :: (74, sWStore) :: (77, sWMark) :: (75, sWLock) :: (76, sWBroad) :: (53, sMust) :: []
theorem R81_ok : GOK Tryz.prog (tab R81) := gok_cons clipEv_ok (gok_cons apply_ok (gok_cons WLoad_ok (gok_cons WStore_ok (gok_cons WMark_ok (gok_cons WLock_ok (gok_cons wbroad_ok (gok_cons must_ok (gok_nil _))))))))
def sDoOk : FSpec := lentSpec 1 Wk8 (fun _ => [.c (.ptr 0 0)]) (fun (w, i, t, x) => wxB w i t x) (fun (w, i, t, x) => DoPre w t x ∧ (workX w i t x).2 = 0) (fun _ => .tup []) fun (w, i, t, x) => wxB (workX w i t x).1.1 i (workX w i t x).1.2 x
def sDoBad : FSpec := lentPan 1 Wk8 (fun _ => [.c (.ptr 0 0)]) (fun (w, i, t, x) => wxB w i t x) (fun (w, i, t, x) => DoPre w t x ∧ ¬ (workX w i t x).2 = 0) (fun _ => anyW8) fun (w, i, t, x) => chF (workX w i t x).2
end Go.Eng
namespace Go.Eng
open Go Go.Proofs
set_option maxHeartbeats 2000000 in
set_option maxRecDepth 100000 in
theorem doOk_ok : Meets Tryz.prog 34 sDoOk := by
  refine meets_lent 1 R81_ok rfl [] (fn := Tryz.f34) rfl rfl rfl (by decide) (fun _ => rfl) (fun _ => rfl) (by decide) fun ⟨w, i, t, op, a, b, c⟩ ⟨hp, he⟩ => ?_
  have ho : 0 ≤ op ∧ op ≤ 27 := hp.fo
  have hpc : t.pc + 1 = IntKind.i64.wrap (t.pc + 1) := by have := hp.fp; rw [wrap_i64 (by omega)]
  have hpc0 : t.pc = IntKind.i64.wrap (IntKind.i64.wrap (t.pc + 1) - 1) := by have := hp.fp; rw [← hpc, wrap_i64 (by omega)]; omega
  have hr := hp.fr
  have hr2 := hp.fr2
  have hs1 := hp.fl.1
  have hs2 := hp.fl.2
  have ht1 := hp.ft.1
  have ht2 := hp.ft.2
  have hn := hp.fn
  have hev := hp.fe
  have hc : (1 ≤ op ∧ op ≤ 15) ∨ op = 0 ∨ op = 16 ∨ op = 17 ∨ op = 18 ∨ op = 19 ∨ op = 20 ∨ op = 21 ∨ op = 22 ∨ op = 23 ∨ op = 24 ∨ op = 25 ∨ op = 26 ∨ op = 27 := by omega
  rcases hc with hl | rfl | rfl | rfl | rfl | rfl | rfl | rfl | rfl | rfl | rfl | rfl | rfl | rfl
  · have eX : workX w i t (op, a, b, c) = ((w, (apX i t (op, a, b, c)).1), (apX i t (op, a, b, c)).2) := if_pos hl
    have he : (apX i t (op, a, b, c)).2 = 0 := by have he : (workX w i t (op, a, b, c)).2 = 0 := he; rw [eX] at he; exact he
    have he : ((apX i t (op, a, b, c)).2) = 0 := he
    have e1 : sDoOk.post ⟨w, i, t, (op, a, b, c)⟩ = numB 0 (wxB (w) i ((apX i t (op, a, b, c)).1) ((op, a, b, c))) := by show numB 0 (wxB (workX w i t (op, a, b, c)).1.1 i (workX w i t (op, a, b, c)).1.2 (op, a, b, c)) = _; rw [eX]
    show bodyK Tryz.prog _ _ _ _ sDoOk _
    unfold bodyK retE
    rw [e1]
    clear e1
    repeat' (first | exact @id (emp _ = true) | (intro h; first | exact Bool.noConfusion h | (simp only [Qn] at h) | skip) | ((conv => whnf) <;> (first | exact trivial | apply Qa | apply And.intro | exact absurd he (by assumption) | apply CallP.inl | (refine CutE.at (A := Th × Int × Int × Int × Int × Int) (t, i, op, a, b, c) ?_) | (exfalso; omega) | apply Qb | apply Qc | apply Qd | apply Qe | apply Qf | apply Qg | apply Qh | apply Qi | exact QA | exact QP | refine QG ?_ | apply Qj | apply Qk | apply Ql | apply Qm | apply Qo | apply Qp | apply Qw | apply Qv | apply Qu | apply Qt | apply Qs | apply Qr | apply Qq | apply Qx | apply wrapS | apply Qy | (with_reducible exact lenNil) | apply Eq.refl)) | ((with_reducible first | apply Y1 | apply Y2 | apply Y3 | show blkEq _ _ _); conv => whnf))
    all_goals first
      | omega
      | exact hpc
      | exact hpc0
      | exact hs1
      | exact hs2 _
      | exact ht1
      | exact ht2
      | exact he
      | exact he.symm
      | exact (hr (by omega)).1.1
      | exact (hr (by omega)).1.2
      | exact (hr (by omega)).2.1
      | exact (hr (by omega)).2.2
      | exact (hr2 (by omega)).1
      | exact (hr2 (by omega)).2
      | exact trivial
      | exact hev
      | exact hn.1
      | exact hn.2
      | exact absurd he (by assumption)
      | exact absurd (by assumption) he
      | (show w.ev.length + 1 ≤ 9223372036854775807; omega)
      | (show (w.ev.length + 1) * 48 ≤ _; omega)
      | (show (w.ev ++ [_]).length = _; rw [List.length_append, List.length_singleton])
      | (refine (slG_snoc (enc := encEv) (l := w.ev) (k := 6) (n := w.ev.length) (x := evOf i t (26, a, b, c)) rfl rfl _ ?_ _ (by assumption)).symm; have hq := ‹_ < (evW w _).ev.length›; have hq : _ < (w.ev ++ [_]).length := hq; rw [List.length_append, List.length_singleton] at hq; exact hq)
      | trace_state
  · have he : (0) = 0 := rfl
    have e1 : sDoOk.post ⟨w, i, t, (0, a, b, c)⟩ = numB 0 (wxB (w) i (stT t 1) ((0, a, b, c))) := rfl
    show bodyK Tryz.prog _ _ _ _ sDoOk _
    unfold bodyK retE
    rw [e1]
    clear e1
    repeat' (first | exact @id (emp _ = true) | (intro h; first | exact Bool.noConfusion h | (simp only [Qn] at h) | skip) | ((conv => whnf) <;> (first | exact trivial | apply Qa | apply And.intro | exact absurd he (by assumption) | apply CallP.inl | apply Qb | apply Qc | apply Qd | apply Qe | apply Qf | apply Qg | apply Qh | apply Qi | exact QA | exact QP | refine QG ?_ | apply Qj | apply Qk | apply Ql | apply Qm | apply Qo | apply Qp | apply Qw | apply Qv | apply Qu | apply Qt | apply Qs | apply Qr | apply Qq | apply Qx | apply wrapS | apply Qy | (with_reducible exact lenNil) | apply Eq.refl)) | ((with_reducible first | apply Y1 | apply Y2 | apply Y3 | show blkEq _ _ _); conv => whnf))
    all_goals first
      | omega
      | exact hpc
      | exact hpc0
      | exact hs1
      | exact hs2 _
      | exact ht1
      | exact ht2
      | exact he
      | exact he.symm
      | exact (hr (by omega)).1.1
      | exact (hr (by omega)).1.2
      | exact (hr (by omega)).2.1
      | exact (hr (by omega)).2.2
      | exact (hr2 (by omega)).1
      | exact (hr2 (by omega)).2
      | exact trivial
      | exact hev
      | exact hn.1
      | exact hn.2
      | exact absurd he (by assumption)
      | exact absurd (by assumption) he
      | (show w.ev.length + 1 ≤ 9223372036854775807; omega)
      | (show (w.ev.length + 1) * 48 ≤ _; omega)
      | (show (w.ev ++ [_]).length = _; rw [List.length_append, List.length_singleton])
      | (refine (slG_snoc (enc := encEv) (l := w.ev) (k := 6) (n := w.ev.length) (x := evOf i t (26, a, b, c)) rfl rfl _ ?_ _ (by assumption)).symm; have hq := ‹_ < (evW w _).ev.length›; have hq : _ < (w.ev ++ [_]).length := hq; rw [List.length_append, List.length_singleton] at hq; exact hq)
      | trace_state
  · have he : ((loadT (tsoOf w) i (atOf t (16, a, b, c))).2) = 0 := he
    have e1 : sDoOk.post ⟨w, i, t, (16, a, b, c)⟩ = numB 0 (wxB (w) i (setRg (nextT t) a (loadT (tsoOf w) i (atOf t (16, a, b, c))).1) ((16, a, b, c))) := rfl
    show bodyK Tryz.prog _ _ _ _ sDoOk _
    unfold bodyK retE
    rw [e1]
    clear e1
    repeat' (first | exact @id (emp _ = true) | (intro h; first | exact Bool.noConfusion h | (simp only [Qn] at h) | skip) | ((conv => whnf) <;> (first | exact trivial | apply Qa | apply And.intro | exact absurd he (by assumption) | apply CallP.inl | (refine CutE.at (A := Wk8) (w, i, nextT t, 16, a, b, c) ?_) | apply Qb | apply Qc | apply Qd | apply Qe | apply Qf | apply Qg | apply Qh | apply Qi | exact QA | exact QP | refine QG ?_ | apply Qj | apply Qk | apply Ql | apply Qm | apply Qo | apply Qp | apply Qw | apply Qv | apply Qu | apply Qt | apply Qs | apply Qr | apply Qq | apply Qx | apply wrapS | apply Qy | (with_reducible exact lenNil) | apply Eq.refl)) | ((with_reducible first | apply Y1 | apply Y2 | apply Y3 | show blkEq _ _ _); conv => whnf))
    all_goals first
      | omega
      | exact hpc
      | exact hpc0
      | exact hs1
      | exact hs2 _
      | exact ht1
      | exact ht2
      | exact he
      | exact he.symm
      | exact (hr (by omega)).1.1
      | exact (hr (by omega)).1.2
      | exact (hr (by omega)).2.1
      | exact (hr (by omega)).2.2
      | exact (hr2 (by omega)).1
      | exact (hr2 (by omega)).2
      | exact trivial
      | exact hev
      | exact hn.1
      | exact hn.2
      | exact absurd he (by assumption)
      | exact absurd (by assumption) he
      | (show w.ev.length + 1 ≤ 9223372036854775807; omega)
      | (show (w.ev.length + 1) * 48 ≤ _; omega)
      | (show (w.ev ++ [_]).length = _; rw [List.length_append, List.length_singleton])
      | (refine (slG_snoc (enc := encEv) (l := w.ev) (k := 6) (n := w.ev.length) (x := evOf i t (26, a, b, c)) rfl rfl _ ?_ _ (by assumption)).symm; have hq := ‹_ < (evW w _).ev.length›; have hq : _ < (w.ev ++ [_]).length := hq; rw [List.length_append, List.length_singleton] at hq; exact hq)
      | trace_state
  · have he : ((storeT (tsoOf w) i (atOf t (17, a, b, c)) (getR t a)).2) = 0 := he
    have e1 : sDoOk.post ⟨w, i, t, (17, a, b, c)⟩ = numB 0 (wxB (setM w (storeT (tsoOf w) i (atOf t (17, a, b, c)) (getR t a)).1) i (nextT t) ((17, a, b, c))) := rfl
    show bodyK Tryz.prog _ _ _ _ sDoOk _
    unfold bodyK retE
    rw [e1]
    clear e1
    repeat' (first | exact @id (emp _ = true) | (intro h; first | exact Bool.noConfusion h | (simp only [Qn] at h) | skip) | ((conv => whnf) <;> (first | exact trivial | apply Qa | apply And.intro | exact absurd he (by assumption) | apply CallP.inl | (refine CutE.at (A := Wk8) (w, i, nextT t, 17, a, b, c) ?_) | apply Qb | apply Qc | apply Qd | apply Qe | apply Qf | apply Qg | apply Qh | apply Qi | exact QA | exact QP | refine QG ?_ | apply Qj | apply Qk | apply Ql | apply Qm | apply Qo | apply Qp | apply Qw | apply Qv | apply Qu | apply Qt | apply Qs | apply Qr | apply Qq | apply Qx | apply wrapS | apply Qy | (with_reducible exact lenNil) | apply Eq.refl)) | ((with_reducible first | apply Y1 | apply Y2 | apply Y3 | show blkEq _ _ _); conv => whnf))
    all_goals first
      | omega
      | exact hpc
      | exact hpc0
      | exact hs1
      | exact hs2 _
      | exact ht1
      | exact ht2
      | exact he
      | exact he.symm
      | exact (hr (by omega)).1.1
      | exact (hr (by omega)).1.2
      | exact (hr (by omega)).2.1
      | exact (hr (by omega)).2.2
      | exact (hr2 (by omega)).1
      | exact (hr2 (by omega)).2
      | exact trivial
      | exact hev
      | exact hn.1
      | exact hn.2
      | exact absurd he (by assumption)
      | exact absurd (by assumption) he
      | (show w.ev.length + 1 ≤ 9223372036854775807; omega)
      | (show (w.ev.length + 1) * 48 ≤ _; omega)
      | (show (w.ev ++ [_]).length = _; rw [List.length_append, List.length_singleton])
      | (refine (slG_snoc (enc := encEv) (l := w.ev) (k := 6) (n := w.ev.length) (x := evOf i t (26, a, b, c)) rfl rfl _ ?_ _ (by assumption)).symm; have hq := ‹_ < (evW w _).ev.length›; have hq : _ < (w.ev ++ [_]).length := hq; rw [List.length_append, List.length_singleton] at hq; exact hq)
      | trace_state
  · have he : (0) = 0 := rfl
    have e1 : sDoOk.post ⟨w, i, t, (18, a, b, c)⟩ = numB 0 (wxB (w) i (nextT t) ((18, a, b, c))) := rfl
    show bodyK Tryz.prog _ _ _ _ sDoOk _
    unfold bodyK retE
    rw [e1]
    clear e1
    repeat' (first | exact @id (emp _ = true) | (intro h; first | exact Bool.noConfusion h | (simp only [Qn] at h) | skip) | ((conv => whnf) <;> (first | exact trivial | apply Qa | apply And.intro | exact absurd he (by assumption) | apply CallP.inl | apply Qb | apply Qc | apply Qd | apply Qe | apply Qf | apply Qg | apply Qh | apply Qi | exact QA | exact QP | refine QG ?_ | apply Qj | apply Qk | apply Ql | apply Qm | apply Qo | apply Qp | apply Qw | apply Qv | apply Qu | apply Qt | apply Qs | apply Qr | apply Qq | apply Qx | apply wrapS | apply Qy | (with_reducible exact lenNil) | apply Eq.refl)) | ((with_reducible first | apply Y1 | apply Y2 | apply Y3 | show blkEq _ _ _); conv => whnf))
    all_goals first
      | omega
      | exact hpc
      | exact hpc0
      | exact hs1
      | exact hs2 _
      | exact ht1
      | exact ht2
      | exact he
      | exact he.symm
      | exact (hr (by omega)).1.1
      | exact (hr (by omega)).1.2
      | exact (hr (by omega)).2.1
      | exact (hr (by omega)).2.2
      | exact (hr2 (by omega)).1
      | exact (hr2 (by omega)).2
      | exact trivial
      | exact hev
      | exact hn.1
      | exact hn.2
      | exact absurd he (by assumption)
      | exact absurd (by assumption) he
      | (show w.ev.length + 1 ≤ 9223372036854775807; omega)
      | (show (w.ev.length + 1) * 48 ≤ _; omega)
      | (show (w.ev ++ [_]).length = _; rw [List.length_append, List.length_singleton])
      | (refine (slG_snoc (enc := encEv) (l := w.ev) (k := 6) (n := w.ev.length) (x := evOf i t (26, a, b, c)) rfl rfl _ ?_ _ (by assumption)).symm; have hq := ‹_ < (evW w _).ev.length›; have hq : _ < (w.ev ++ [_]).length := hq; rw [List.length_append, List.length_singleton] at hq; exact hq)
      | trace_state
  · have he : ((lkT w i t (19, a, b, c) 0 (getR t c)).2.2) = 0 := he
    have e1 : sDoOk.post ⟨w, i, t, (19, a, b, c)⟩ = numB 0 (wxB (setM w (lkT w i t (19, a, b, c) 0 (getR t c)).1) i (setRg (nextT t) a (lkT w i t (19, a, b, c) 0 (getR t c)).2.1) ((19, a, b, c))) := rfl
    show bodyK Tryz.prog _ _ _ _ sDoOk _
    unfold bodyK retE
    rw [e1]
    clear e1
    repeat' (first | exact @id (emp _ = true) | (intro h; first | exact Bool.noConfusion h | (simp only [Qn] at h) | skip) | ((conv => whnf) <;> (first | exact trivial | apply Qa | apply And.intro | exact absurd he (by assumption) | apply CallP.inl | (refine CutE.at (A := Wd × Int × Th × Ins × Int × Int) (w, i, nextT t, (19, a, b, c), 0, (getR t c)) ?_) | apply Qb | apply Qc | apply Qd | apply Qe | apply Qf | apply Qg | apply Qh | apply Qi | exact QA | exact QP | refine QG ?_ | apply Qj | apply Qk | apply Ql | apply Qm | apply Qo | apply Qp | apply Qw | apply Qv | apply Qu | apply Qt | apply Qs | apply Qr | apply Qq | apply Qx | apply wrapS | apply Qy | (with_reducible exact lenNil) | apply Eq.refl)) | ((with_reducible first | apply Y1 | apply Y2 | apply Y3 | show blkEq _ _ _); conv => whnf))
    all_goals first
      | omega
      | exact hpc
      | exact hpc0
      | exact hs1
      | exact hs2 _
      | exact ht1
      | exact ht2
      | exact he
      | exact he.symm
      | exact (hr (by omega)).1.1
      | exact (hr (by omega)).1.2
      | exact (hr (by omega)).2.1
      | exact (hr (by omega)).2.2
      | exact (hr2 (by omega)).1
      | exact (hr2 (by omega)).2
      | exact trivial
      | exact hev
      | exact hn.1
      | exact hn.2
      | exact absurd he (by assumption)
      | exact absurd (by assumption) he
      | (show w.ev.length + 1 ≤ 9223372036854775807; omega)
      | (show (w.ev.length + 1) * 48 ≤ _; omega)
      | (show (w.ev ++ [_]).length = _; rw [List.length_append, List.length_singleton])
      | (refine (slG_snoc (enc := encEv) (l := w.ev) (k := 6) (n := w.ev.length) (x := evOf i t (26, a, b, c)) rfl rfl _ ?_ _ (by assumption)).symm; have hq := ‹_ < (evW w _).ev.length›; have hq : _ < (w.ev ++ [_]).length := hq; rw [List.length_append, List.length_singleton] at hq; exact hq)
      | trace_state
  · have he : ((lkT w i t (20, a, b, c) 1 0).2.2) = 0 := he
    have e1 : sDoOk.post ⟨w, i, t, (20, a, b, c)⟩ = numB 0 (wxB (setM w (lkT w i t (20, a, b, c) 1 0).1) i (setRg (nextT t) a (lkT w i t (20, a, b, c) 1 0).2.1) ((20, a, b, c))) := rfl
    show bodyK Tryz.prog _ _ _ _ sDoOk _
    unfold bodyK retE
    rw [e1]
    clear e1
    repeat' (first | exact @id (emp _ = true) | (intro h; first | exact Bool.noConfusion h | (simp only [Qn] at h) | skip) | ((conv => whnf) <;> (first | exact trivial | apply Qa | apply And.intro | exact absurd he (by assumption) | apply CallP.inl | (refine CutE.at (A := Wd × Int × Th × Ins × Int × Int) (w, i, nextT t, (20, a, b, c), 1, 0) ?_) | apply Qb | apply Qc | apply Qd | apply Qe | apply Qf | apply Qg | apply Qh | apply Qi | exact QA | exact QP | refine QG ?_ | apply Qj | apply Qk | apply Ql | apply Qm | apply Qo | apply Qp | apply Qw | apply Qv | apply Qu | apply Qt | apply Qs | apply Qr | apply Qq | apply Qx | apply wrapS | apply Qy | (with_reducible exact lenNil) | apply Eq.refl)) | ((with_reducible first | apply Y1 | apply Y2 | apply Y3 | show blkEq _ _ _); conv => whnf))
    all_goals first
      | omega
      | exact hpc
      | exact hpc0
      | exact hs1
      | exact hs2 _
      | exact ht1
      | exact ht2
      | exact he
      | exact he.symm
      | exact (hr (by omega)).1.1
      | exact (hr (by omega)).1.2
      | exact (hr (by omega)).2.1
      | exact (hr (by omega)).2.2
      | exact (hr2 (by omega)).1
      | exact (hr2 (by omega)).2
      | exact trivial
      | exact hev
      | exact hn.1
      | exact hn.2
      | exact absurd he (by assumption)
      | exact absurd (by assumption) he
      | (show w.ev.length + 1 ≤ 9223372036854775807; omega)
      | (show (w.ev.length + 1) * 48 ≤ _; omega)
      | (show (w.ev ++ [_]).length = _; rw [List.length_append, List.length_singleton])
      | (refine (slG_snoc (enc := encEv) (l := w.ev) (k := 6) (n := w.ev.length) (x := evOf i t (26, a, b, c)) rfl rfl _ ?_ _ (by assumption)).symm; have hq := ‹_ < (evW w _).ev.length›; have hq : _ < (w.ev ++ [_]).length := hq; rw [List.length_append, List.length_singleton] at hq; exact hq)
      | trace_state
  · have he : ((lkT w i t (21, a, b, c) 2 0).2.2) = 0 := he
    have e1 : sDoOk.post ⟨w, i, t, (21, a, b, c)⟩ = numB 0 (wxB (setM w (lkT w i t (21, a, b, c) 2 0).1) i (setRg (nextT t) a (lkT w i t (21, a, b, c) 2 0).2.1) ((21, a, b, c))) := rfl
    show bodyK Tryz.prog _ _ _ _ sDoOk _
    unfold bodyK retE
    rw [e1]
    clear e1
    repeat' (first | exact @id (emp _ = true) | (intro h; first | exact Bool.noConfusion h | (simp only [Qn] at h) | skip) | ((conv => whnf) <;> (first | exact trivial | apply Qa | apply And.intro | exact absurd he (by assumption) | apply CallP.inl | (refine CutE.at (A := Wd × Int × Th × Ins × Int × Int) (w, i, nextT t, (21, a, b, c), 2, 0) ?_) | apply Qb | apply Qc | apply Qd | apply Qe | apply Qf | apply Qg | apply Qh | apply Qi | exact QA | exact QP | refine QG ?_ | apply Qj | apply Qk | apply Ql | apply Qm | apply Qo | apply Qp | apply Qw | apply Qv | apply Qu | apply Qt | apply Qs | apply Qr | apply Qq | apply Qx | apply wrapS | apply Qy | (with_reducible exact lenNil) | apply Eq.refl)) | ((with_reducible first | apply Y1 | apply Y2 | apply Y3 | show blkEq _ _ _); conv => whnf))
    all_goals first
      | omega
      | exact hpc
      | exact hpc0
      | exact hs1
      | exact hs2 _
      | exact ht1
      | exact ht2
      | exact he
      | exact he.symm
      | exact (hr (by omega)).1.1
      | exact (hr (by omega)).1.2
      | exact (hr (by omega)).2.1
      | exact (hr (by omega)).2.2
      | exact (hr2 (by omega)).1
      | exact (hr2 (by omega)).2
      | exact trivial
      | exact hev
      | exact hn.1
      | exact hn.2
      | exact absurd he (by assumption)
      | exact absurd (by assumption) he
      | (show w.ev.length + 1 ≤ 9223372036854775807; omega)
      | (show (w.ev.length + 1) * 48 ≤ _; omega)
      | (show (w.ev ++ [_]).length = _; rw [List.length_append, List.length_singleton])
      | (refine (slG_snoc (enc := encEv) (l := w.ev) (k := 6) (n := w.ev.length) (x := evOf i t (26, a, b, c)) rfl rfl _ ?_ _ (by assumption)).symm; have hq := ‹_ < (evW w _).ev.length›; have hq : _ < (w.ev ++ [_]).length := hq; rw [List.length_append, List.length_singleton] at hq; exact hq)
      | trace_state
  · have he : (0) = 0 := rfl
    have e1 : sDoOk.post ⟨w, i, t, (22, a, b, c)⟩ = numB 0 (wxB (w) i (broadT w (nextT t)) ((22, a, b, c))) := rfl
    show bodyK Tryz.prog _ _ _ _ sDoOk _
    unfold bodyK retE
    rw [e1]
    clear e1
    repeat' (first | exact @id (emp _ = true) | (intro h; first | exact Bool.noConfusion h | (simp only [Qn] at h) | skip) | ((conv => whnf) <;> (first | exact trivial | apply Qa | apply And.intro | exact absurd he (by assumption) | apply CallP.inl | (refine CutE.at (A := Wk8) (w, i, nextT t, 22, a, b, c) ?_) | apply Qb | apply Qc | apply Qd | apply Qe | apply Qf | apply Qg | apply Qh | apply Qi | exact QA | exact QP | refine QG ?_ | apply Qj | apply Qk | apply Ql | apply Qm | apply Qo | apply Qp | apply Qw | apply Qv | apply Qu | apply Qt | apply Qs | apply Qr | apply Qq | apply Qx | apply wrapS | apply Qy | (with_reducible exact lenNil) | apply Eq.refl)) | ((with_reducible first | apply Y1 | apply Y2 | apply Y3 | show blkEq _ _ _); conv => whnf))
    all_goals first
      | omega
      | exact hpc
      | exact hpc0
      | exact hs1
      | exact hs2 _
      | exact ht1
      | exact ht2
      | exact he
      | exact he.symm
      | exact (hr (by omega)).1.1
      | exact (hr (by omega)).1.2
      | exact (hr (by omega)).2.1
      | exact (hr (by omega)).2.2
      | exact (hr2 (by omega)).1
      | exact (hr2 (by omega)).2
      | exact trivial
      | exact hev
      | exact hn.1
      | exact hn.2
      | exact absurd he (by assumption)
      | exact absurd (by assumption) he
      | (show w.ev.length + 1 ≤ 9223372036854775807; omega)
      | (show (w.ev.length + 1) * 48 ≤ _; omega)
      | (show (w.ev ++ [_]).length = _; rw [List.length_append, List.length_singleton])
      | (refine (slG_snoc (enc := encEv) (l := w.ev) (k := 6) (n := w.ev.length) (x := evOf i t (26, a, b, c)) rfl rfl _ ?_ _ (by assumption)).symm; have hq := ‹_ < (evW w _).ev.length›; have hq : _ < (w.ev ++ [_]).length := hq; rw [List.length_append, List.length_singleton] at hq; exact hq)
      | trace_state
  · have he : (0) = 0 := rfl
    have e1 : sDoOk.post ⟨w, i, t, (23, a, b, c)⟩ = numB 0 (wxB (w) i (nextT t) ((23, a, b, c))) := rfl
    show bodyK Tryz.prog _ _ _ _ sDoOk _
    unfold bodyK retE
    rw [e1]
    clear e1
    repeat' (first | exact @id (emp _ = true) | (intro h; first | exact Bool.noConfusion h | (simp only [Qn] at h) | skip) | ((conv => whnf) <;> (first | exact trivial | apply Qa | apply And.intro | exact absurd he (by assumption) | apply CallP.inl | apply Qb | apply Qc | apply Qd | apply Qe | apply Qf | apply Qg | apply Qh | apply Qi | exact QA | exact QP | refine QG ?_ | apply Qj | apply Qk | apply Ql | apply Qm | apply Qo | apply Qp | apply Qw | apply Qv | apply Qu | apply Qt | apply Qs | apply Qr | apply Qq | apply Qx | apply wrapS | apply Qy | (with_reducible exact lenNil) | apply Eq.refl)) | ((with_reducible first | apply Y1 | apply Y2 | apply Y3 | show blkEq _ _ _); conv => whnf))
    all_goals first
      | omega
      | exact hpc
      | exact hpc0
      | exact hs1
      | exact hs2 _
      | exact ht1
      | exact ht2
      | exact he
      | exact he.symm
      | exact (hr (by omega)).1.1
      | exact (hr (by omega)).1.2
      | exact (hr (by omega)).2.1
      | exact (hr (by omega)).2.2
      | exact (hr2 (by omega)).1
      | exact (hr2 (by omega)).2
      | exact trivial
      | exact hev
      | exact hn.1
      | exact hn.2
      | exact absurd he (by assumption)
      | exact absurd (by assumption) he
      | (show w.ev.length + 1 ≤ 9223372036854775807; omega)
      | (show (w.ev.length + 1) * 48 ≤ _; omega)
      | (show (w.ev ++ [_]).length = _; rw [List.length_append, List.length_singleton])
      | (refine (slG_snoc (enc := encEv) (l := w.ev) (k := 6) (n := w.ev.length) (x := evOf i t (26, a, b, c)) rfl rfl _ ?_ _ (by assumption)).symm; have hq := ‹_ < (evW w _).ev.length›; have hq : _ < (w.ev ++ [_]).length := hq; rw [List.length_append, List.length_singleton] at hq; exact hq)
      | trace_state
  · have he : ((mkT w t (24, a, b, c) 1).2) = 0 := he
    have e1 : sDoOk.post ⟨w, i, t, (24, a, b, c)⟩ = numB 0 (wxB (setMem w (mkT w t (24, a, b, c) 1).1) i (nextT t) ((24, a, b, c))) := rfl
    show bodyK Tryz.prog _ _ _ _ sDoOk _
    unfold bodyK retE
    rw [e1]
    clear e1
    repeat' (first | exact @id (emp _ = true) | (intro h; first | exact Bool.noConfusion h | (simp only [Qn] at h) | skip) | ((conv => whnf) <;> (first | exact trivial | apply Qa | apply And.intro | exact absurd he (by assumption) | apply CallP.inl | (refine CutE.at (A := Wd × Int × Th × Ins × Int) (w, i, nextT t, (24, a, b, c), 1) ?_) | apply Qb | apply Qc | apply Qd | apply Qe | apply Qf | apply Qg | apply Qh | apply Qi | exact QA | exact QP | refine QG ?_ | apply Qj | apply Qk | apply Ql | apply Qm | apply Qo | apply Qp | apply Qw | apply Qv | apply Qu | apply Qt | apply Qs | apply Qr | apply Qq | apply Qx | apply wrapS | apply Qy | (with_reducible exact lenNil) | apply Eq.refl)) | ((with_reducible first | apply Y1 | apply Y2 | apply Y3 | show blkEq _ _ _); conv => whnf))
    all_goals first
      | omega
      | exact hpc
      | exact hpc0
      | exact hs1
      | exact hs2 _
      | exact ht1
      | exact ht2
      | exact he
      | exact he.symm
      | exact (hr (by omega)).1.1
      | exact (hr (by omega)).1.2
      | exact (hr (by omega)).2.1
      | exact (hr (by omega)).2.2
      | exact (hr2 (by omega)).1
      | exact (hr2 (by omega)).2
      | exact trivial
      | exact hev
      | exact hn.1
      | exact hn.2
      | exact absurd he (by assumption)
      | exact absurd (by assumption) he
      | (show w.ev.length + 1 ≤ 9223372036854775807; omega)
      | (show (w.ev.length + 1) * 48 ≤ _; omega)
      | (show (w.ev ++ [_]).length = _; rw [List.length_append, List.length_singleton])
      | (refine (slG_snoc (enc := encEv) (l := w.ev) (k := 6) (n := w.ev.length) (x := evOf i t (26, a, b, c)) rfl rfl _ ?_ _ (by assumption)).symm; have hq := ‹_ < (evW w _).ev.length›; have hq : _ < (w.ev ++ [_]).length := hq; rw [List.length_append, List.length_singleton] at hq; exact hq)
      | trace_state
  · have he : ((mkT w t (25, a, b, c) 2).2) = 0 := he
    have e1 : sDoOk.post ⟨w, i, t, (25, a, b, c)⟩ = numB 0 (wxB (setMem w (mkT w t (25, a, b, c) 2).1) i (nextT t) ((25, a, b, c))) := rfl
    show bodyK Tryz.prog _ _ _ _ sDoOk _
    unfold bodyK retE
    rw [e1]
    clear e1
    repeat' (first | exact @id (emp _ = true) | (intro h; first | exact Bool.noConfusion h | (simp only [Qn] at h) | skip) | ((conv => whnf) <;> (first | exact trivial | apply Qa | apply And.intro | exact absurd he (by assumption) | apply CallP.inl | (refine CutE.at (A := Wd × Int × Th × Ins × Int) (w, i, nextT t, (25, a, b, c), 2) ?_) | apply Qb | apply Qc | apply Qd | apply Qe | apply Qf | apply Qg | apply Qh | apply Qi | exact QA | exact QP | refine QG ?_ | apply Qj | apply Qk | apply Ql | apply Qm | apply Qo | apply Qp | apply Qw | apply Qv | apply Qu | apply Qt | apply Qs | apply Qr | apply Qq | apply Qx | apply wrapS | apply Qy | (with_reducible exact lenNil) | apply Eq.refl)) | ((with_reducible first | apply Y1 | apply Y2 | apply Y3 | show blkEq _ _ _); conv => whnf))
    all_goals first
      | omega
      | exact hpc
      | exact hpc0
      | exact hs1
      | exact hs2 _
      | exact ht1
      | exact ht2
      | exact he
      | exact he.symm
      | exact (hr (by omega)).1.1
      | exact (hr (by omega)).1.2
      | exact (hr (by omega)).2.1
      | exact (hr (by omega)).2.2
      | exact (hr2 (by omega)).1
      | exact (hr2 (by omega)).2
      | exact trivial
      | exact hev
      | exact hn.1
      | exact hn.2
      | exact absurd he (by assumption)
      | exact absurd (by assumption) he
      | (show w.ev.length + 1 ≤ 9223372036854775807; omega)
      | (show (w.ev.length + 1) * 48 ≤ _; omega)
      | (show (w.ev ++ [_]).length = _; rw [List.length_append, List.length_singleton])
      | (refine (slG_snoc (enc := encEv) (l := w.ev) (k := 6) (n := w.ev.length) (x := evOf i t (26, a, b, c)) rfl rfl _ ?_ _ (by assumption)).symm; have hq := ‹_ < (evW w _).ev.length›; have hq : _ < (w.ev ++ [_]).length := hq; rw [List.length_append, List.length_singleton] at hq; exact hq)
      | trace_state
  · have he : (0) = 0 := rfl
    have e1 : sDoOk.post ⟨w, i, t, (26, a, b, c)⟩ = numB 0 (wxB (evW w (evOf i t (26, a, b, c))) i (nextT t) ((26, a, b, c))) := rfl
    show bodyK Tryz.prog _ _ _ _ sDoOk _
    unfold bodyK retE
    rw [e1]
    clear e1
    repeat' (first | exact @id (emp _ = true) | (intro h; first | exact Bool.noConfusion h | (simp only [Qn] at h) | skip) | ((conv => whnf) <;> (first | exact trivial | apply Qa | apply And.intro | exact absurd he (by assumption) | apply CallP.inl | (refine CutE.at (A := List Ev) w.ev ?_) | (refine EntP.at [⟨true, 0, 6, 0, 0⟩] [0] ?_) | apply Qb | apply Qc | apply Qd | apply Qe | apply Qf | apply Qg | apply Qh | apply Qi | exact QA | exact QP | refine QG ?_ | apply Qj | apply Qk | apply Ql | apply Qm | apply Qo | apply Qp | apply Qw | apply Qv | apply Qu | apply Qt | apply Qs | apply Qr | apply Qq | apply Qx | apply wrapS | apply Qy | (with_reducible exact lenNil) | apply Eq.refl)) | ((with_reducible first | apply Y1 | apply Y2 | apply Y3 | show blkEq _ _ _); conv => whnf))
    all_goals first
      | omega
      | exact hpc
      | exact hpc0
      | exact hs1
      | exact hs2 _
      | exact ht1
      | exact ht2
      | exact he
      | exact he.symm
      | exact (hr (by omega)).1.1
      | exact (hr (by omega)).1.2
      | exact (hr (by omega)).2.1
      | exact (hr (by omega)).2.2
      | exact (hr2 (by omega)).1
      | exact (hr2 (by omega)).2
      | exact trivial
      | exact hev
      | exact hn.1
      | exact hn.2
      | exact absurd he (by assumption)
      | exact absurd (by assumption) he
      | (show w.ev.length + 1 ≤ 9223372036854775807; omega)
      | (show (w.ev.length + 1) * 48 ≤ _; omega)
      | (show (w.ev ++ [_]).length = _; rw [List.length_append, List.length_singleton])
      | (refine (slG_snoc (enc := encEv) (l := w.ev) (k := 6) (n := w.ev.length) (x := evOf i t (26, a, b, c)) rfl rfl _ ?_ _ (by assumption)).symm; have hq := ‹_ < (evW w _).ev.length›; have hq : _ < (w.ev ++ [_]).length := hq; rw [List.length_append, List.length_singleton] at hq; exact hq)
      | trace_state
  · have h3 : (workX w i t (27, a, b, c)).2 = 3 := rfl
    have he : (workX w i t (27, a, b, c)).2 = 0 := he
    rw [h3] at he
    cases he
end Go.Eng
