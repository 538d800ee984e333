/- A part of the walks, and of the machine that proves them (StI). -/
import Derived.Test.YtgahcoccodhkmaaGreatStHl
import Derived.Test.YtgahcoccodhkmaaGreatStHm
set_option linter.unusedVariables false
set_option linter.unusedSimpArgs false
namespace Go.Eng
open Go Go.Proofs
def stT (t : Th) (s : Int) : Th := ⟨t.pc, t.r0, t.r1, t.r2, t.r3, t.r4, t.r5, t.r6, t.r7, t.fs, s, t.fa, t.lf⟩
def evW (w : Wd) (e : Ev) : Wd := ⟨w.code, w.ws, w.ts, w.d, w.l, w.th, w.ev ++ [e]⟩
def evOf (i : Int) (t : Th) (x : Ins) : Ev := (x.2.1, i, t.r0, t.r1, t.r2, t.r3)
abbrev apOf (i : Int) (t : Th) (x : Ins) : Th × Int := applyF t i x.1 x.2.1 x.2.2.1 x.2.2.2
def localP (w : Wd) (i : Int) (x : Ins) : Wd × Int := if 0 < (thOf w i).lf.length then (w, 9) else (putW w i (apOf i (thOf w i) x).1, (apOf i (thOf w i) x).2)
/-- A step: the world behind it, and the error with which the thread faults. -/
def stepX (w : Wd) (i : Int) (x : Ins) : Wd × Int :=
  if x.1 = 0 then (putW w i (stT (thOf w i) 1), 0)
  else if 1 ≤ x.1 ∧ x.1 ≤ 15 then localP w i x
  else if x.1 = 16 ∨ x.1 = 17 then accP w i x
  else if 19 ≤ x.1 ∧ x.1 ≤ 21 then lockP w i x
  else if x.1 = 22 then broadP w i
  else if x.1 = 24 ∨ x.1 = 25 then markP w i x
  else if x.1 = 26 then (putW (evW w (evOf i (thOf w i) x)) i (nextT (thOf w i)), 0)
  else (putW w i (nextT (thOf w i)), 0)
def stepP (w : Wd) (i : Int) : Wd × Int := if (w.code.length : Int) ≤ (thOf w i).pc then (w, 3) else stepX w i (insOf w (thOf w i))
def stepF (w : Wd) (i : Int) : Wd := finW w i (stepP w i)
theorem stepF_end {w : Wd} {i : Int} (h : (w.code.length : Int) ≤ (thOf w i).pc) : stepF w i = putW w i (faultT (thOf w i) 3) := by
  unfold stepF stepP; rw [if_pos h]; exact finW_bad (show ¬ (3 : Int) = 0 by decide)
theorem stepF_in {w : Wd} {i : Int} {x : Ins} (h : ¬ (w.code.length : Int) ≤ (thOf w i).pc) (hx : insOf w (thOf w i) = x) : stepF w i = finW w i (stepX w i x) := by
  unfold stepF stepP; rw [if_neg h, hx]
theorem broadP_err (w : Wd) (i : Int) : (broadP w i).2 = 0 := by unfold broadP; split <;> rfl
def I1 : List (Nat × FSpec) := (58, sLoc) :: (59, sRApply) :: (60, sAcc8) :: (61, sLock8) :: (62, sBroad8) :: (63, sMark8) :: H1
theorem I1_ok : GOK Tryz.prog (tab I1) := gok_cons loc_ok (gok_cons rapply_ok (gok_cons acc8_ok (gok_cons lock8_ok (gok_cons broad8_ok (gok_cons mark8_ok H1_ok)))))
def sStep8 : FSpec := spec (Wd × Int) (fun (w, i) => [.s (rWd w), .i i]) (fun (w, i) => WOk w i ∧ w.ev.length ≤ 1000000) fun (w, i) => .s (rWd (stepF w i))
theorem ev_cat {l : List Ev} {e : Ev} {i t : Nat} (hi : i < l.length + 1) (ht : t < 6) : slG encEv (l ++ [e]) i t = catG (0 + l.length) (catG 0 (litG 6 []) (slG encEv l)) (litG 6 (encEv e)) i t := by
  rw [← slG_snoc (enc := encEv) (l := l) (k := 6) (n := l.length) (x := e) rfl rfl i hi t ht, Nat.zero_add]
  unfold catG
  split
  · simp
  · rfl
theorem mayI_code {n : Int} {op a b c : Int} (hn : n ≤ 1000) (h : insR n (op, a, b, c) = true) (hop : 1 ≤ op ∧ op ≤ 15) : mayI op a b c = true := by
  obtain ⟨_, h1, h2, h3⟩ := insR_at h
  have ho : op = 1 ∨ op = 2 ∨ op = 3 ∨ op = 4 ∨ op = 5 ∨ op = 6 ∨ op = 7 ∨ op = 8 ∨ op = 9 ∨ op = 10 ∨ op = 11 ∨ op = 12 ∨ op = 13 ∨ op = 14 ∨ op = 15 := by omega
  have hv : ∀ {k v : Int}, okV n k v = true → (k = 114 → 0 ≤ v ∧ v ≤ 7) ∧ (k = 116 → 0 ≤ v ∧ v ≤ 1000) := fun {k v} h => by
    have := of_decide_eq_true h
    omega
  have h1 := hv h1
  have h2 := hv h2
  have h3 := hv h3
  refine mayI_iff.2 ?_
  rcases ho with rfl | rfl | rfl | rfl | rfl | rfl | rfl | rfl | rfl | rfl | rfl | rfl | rfl | rfl | rfl
  all_goals
    refine ⟨fun k hk => ?_, fun hj => ?_⟩
    · have hk' : (k : Int) < 3 := Int.lt_of_lt_of_le hk (by decide)
      have : k = 0 ∨ k = 1 ∨ k = 2 := by omega
      rcases this with rfl | rfl | rfl
      · first | exact h1.1 rfl | exact absurd hk (by decide)
      · first | exact h2.1 rfl | exact absurd hk (by decide)
      · first | exact h3.1 rfl | exact absurd hk (by decide)
    · first | exact h1.2 rfl | exact h2.2 rfl | exact h3.2 rfl | exact absurd hj (by decide)
end Go.Eng
namespace Go.Eng
open Go Go.Proofs
def decF (x : Int) : Int := if x > 0 then x - 1 else 0
/-- One put less to wait for. -/
def lessT (i : Int) (t : Th) : Th := if 0 < t.lf.length then leftT t (t.lf.set i.toNat (decF (t.lf.getD i.toNat default))) else t
def thsW (w : Wd) (th : List Th) : Wd := ⟨w.code, w.ws, w.ts, w.d, w.l, th, w.ev⟩
def dropW (w : Wd) (i : Int) : Wd := ⟨w.code, w.ws, w.ts, w.d, w.l.set i.toNat ((w.l.getD i.toNat default).drop 1), w.th, w.ev⟩
abbrev oldest (w : Wd) (i : Int) : Put := (w.l.getD i.toNat default).getD 0 default
abbrev stOf (w : Wd) (i : Int) : (List Int × List Int) × Int := storeF w.ws w.ts (oldest w i).1 (oldest w i).2
def midF (w : Wd) (i : Int) : Wd :=
  if (stOf w i).2 = 0 then setMem (dropW w i) (stOf w i).1 else if ¬ (thOf w i).st = 2 then putW (dropW w i) i (faultT (thOf w i) (stOf w i).2) else dropW w i
def flushF (w : Wd) (i : Int) : Wd := thsW (midF w i) ((midF w i).th.map (lessT i))
theorem withT_lf {l : List Th} {i : Int} {t : Th} (hi : 0 ≤ i ∧ i < l.length) (h : t.lf = (l.getD i.toNat default).lf) (k : Nat) : ((withT l i t).getD k default).lf = (l.getD k default).lf := by
  by_cases hk : (k : Int) = i
  · rw [withT_at (by omega) hk, h, ← hk, Int.toNat_natCast]
  · rw [withT_ne hk]
theorem midF_th (w : Wd) (i : Int) (hi : 0 ≤ i ∧ i < w.th.length) : (midF w i).th.length = w.th.length ∧ ∀ k, ((midF w i).th.getD k default).lf = (w.th.getD k default).lf := by
  unfold midF
  split
  · exact ⟨rfl, fun _ => rfl⟩
  split
  · exact ⟨withT_len _ _ _, fun k => withT_lf (l := w.th) (t := faultT (thOf w i) (stOf w i).2) hi rfl k⟩
  · exact ⟨rfl, fun _ => rfl⟩
theorem thE_left {t : Th} {lf : List Int} (h : emp lf = false) : thE true (leftT t lf) = [.i t.pc, .i t.r0, .i t.r1, .i t.r2, .i t.r3, .i t.r4, .i t.r5, .i t.r6, .i t.r7, frsS t.fs, .i t.st, .i t.fa, .ro lf.length 1 false (slG encI lf)] := by
  show [_, _, _, _, _, _, _, _, _, _, _, _, Cell.ro lf.length 1 (true && emp lf) (slG encI lf)] = _
  rw [h]; rfl
theorem dec_max {x y : Int} (h : 0 ≤ x ∧ x ≤ 8) (hy : y = IntKind.i64.wrap (x - 1)) : decF x = if y > 0 then y else 0 := by
  subst hy
  rw [wrap_i64 (by omega)]
  unfold decF
  split <;> split <;> omega
theorem emp_set {l : List Int} {i : Nat} {x : Int} (h : 0 < l.length) : emp (l.set i x) = false := decide_eq_false (by rw [List.length_set]; omega)
theorem left_of {w : Wd} (h : worldR w = true) (k : Nat) : ((w.th.getD k default).lf.length = 0 ∨ (w.th.getD k default).lf.length = w.th.length) ∧ ∀ j, 0 ≤ (w.th.getD k default).lf.getD j default ∧ (w.th.getD k default).lf.getD j default ≤ 8 := by
  by_cases hk : k < w.th.length
  · obtain ⟨h1, h2⟩ := okTh_iff.1 ((worldR_iff.1 h).2.2.2 k hk)
    refine ⟨h2, fun j => ?_⟩
    have h3 := (thR_iff.1 h1).2.2.2.2.1
    rw [List.any_eq_false] at h3
    by_cases hj : j < (w.th.getD k default).lf.length
    · have := h3 _ (List.getElem_mem hj)
      rw [List.getD_eq_getElem?_getD, List.getElem?_eq_getElem hj]
      unfold badN at this
      simp only [decide_eq_true_eq] at this
      show 0 ≤ (w.th.getD k default).lf[j] ∧ (w.th.getD k default).lf[j] ≤ 8
      omega
    · rw [List.getD_eq_getElem?_getD, List.getElem?_eq_none (by omega)]; decide
  · have : w.th.getD k default = default := by rw [List.getD_eq_getElem?_getD, List.getElem?_eq_none (by omega)]; rfl
    rw [this]
    exact ⟨.inl rfl, fun j => by show 0 ≤ ([] : List Int).getD j 0 ∧ ([] : List Int).getD j 0 ≤ 8; simp⟩
def K1 : List (Nat × FSpec) := (64, sDrop) :: (65, sRStore) :: (66, sWith) :: H1
theorem K1_ok : GOK Tryz.prog (tab K1) := gok_cons drop_ok (gok_cons rstore_ok (gok_cons with_ok H1_ok))
def sFlush8 : FSpec := spec (Wd × Int) (fun (w, i) => [.s (rWd w), .i i]) (fun (w, i) => WOk w i ∧ 0 < (w.l.getD i.toNat default).length) fun (w, i) => .s (rWd (flushF w i))
set_option maxHeartbeats 2000000 in
set_option maxRecDepth 100000 in
theorem flush8_ok : Meets Tryz.prog 29 sFlush8 := by
  refine meets_plain K1_ok rfl [8] (fn := Tryz.f29) rfl rfl rfl (by decide) fun ⟨w, i⟩ ⟨ho, hl⟩ => ?_
  show bodyK Tryz.prog _ _ _ _ sFlush8 (w, i)
  unfold bodyK retE
  have hh := ho.h
  have hlen := world_len ho.r
  have hm := ho.mem
  have hF := ho.hasF
  have hhas : hasW w i = true := decide_eq_true hh
  have hl : 0 < (w.l.getD i.toNat default).length := hl
  repeat' (first | exact @id (emp _ = true) | (intro h; first | exact Bool.noConfusion h | (simp only [Qn] at h) | skip) | ((conv => whnf) <;> (first | exact trivial | apply Qa | apply And.intro | apply Qb | apply Qc | apply Qd | apply Qe | apply Qf | apply Qg | apply Qh | apply Qi | exact QA | exact QP | refine QG ?_ | apply Qj | apply Qk | apply Ql | apply Qm | apply Qo | apply Qp | apply Qw | apply Qv | apply Qu | apply Qt | apply Qs | apply Qr | apply Qq | apply Qx | apply wrapS | apply Qy | (with_reducible exact lenNil) | apply Eq.refl)) | ((with_reducible first | apply Y1 | apply Y2 | apply Y3 | show blkEq _ _ _); conv => whnf))
  all_goals try first
    | omega
    | exact hF
    | exact hm
  apply CutP.up (G := Wd) (fun m => m = midF w i) [1, 2, 4] (fun _ => []) (fun m => [(0, .row 33 (wdC true m))]) 4
  apply And.intro
  · by_cases hs : (stOf w i).2 = 0
    · have e : midF w i = setMem (dropW w i) (stOf w i).1 := if_pos hs
      rw [e]
      repeat' (first | exact @id (emp _ = true) | (intro h; first | exact Bool.noConfusion h | (simp only [Qn] at h) | skip) | ((conv => whnf) <;> (first | exact trivial | apply Qa | apply And.intro | exact absurd hs (by assumption) | (refine CutE.at (A := Wd) (setMem (dropW w i) (stOf w i).1) ?_) | apply EntP.id 4 | apply Qb | apply Qc | apply Qd | apply Qe | apply Qf | apply Qg | apply Qh | apply Qi | exact QA | exact QP | refine QG ?_ | apply Qj | apply Qk | apply Ql | apply Qm | apply Qo | apply Qp | apply Qw | apply Qv | apply Qu | apply Qt | apply Qs | apply Qr | apply Qq | apply Qx | apply wrapS | apply Qy | (with_reducible exact lenNil) | apply Eq.refl)) | ((with_reducible first | apply Y1 | apply Y2 | apply Y3 | show blkEq _ _ _); conv => whnf))
      all_goals first
        | omega
        | rfl
        | exact hm
        | trace_state
    have e0 : midF w i = if ¬ (thOf w i).st = 2 then putW (dropW w i) i (faultT (thOf w i) (stOf w i).2) else dropW w i := if_neg hs
    by_cases hst : (thOf w i).st = 2
    · have e : midF w i = dropW w i := by rw [e0, if_neg (fun h => h hst)]
      rw [e]
      repeat' (first | exact @id (emp _ = true) | (intro h; first | exact Bool.noConfusion h | (simp only [Qn] at h) | skip) | ((conv => whnf) <;> (first | exact trivial | apply Qa | apply And.intro | exact absurd (by assumption) hs | exact absurd hst (by assumption) | (refine CutE.at (A := Wd) (dropW w i) ?_) | apply EntP.id 4 | apply Qb | apply Qc | apply Qd | apply Qe | apply Qf | apply Qg | apply Qh | apply Qi | exact QA | exact QP | refine QG ?_ | apply Qj | apply Qk | apply Ql | apply Qm | apply Qo | apply Qp | apply Qw | apply Qv | apply Qu | apply Qt | apply Qs | apply Qr | apply Qq | apply Qx | apply wrapS | apply Qy | (with_reducible exact lenNil) | apply Eq.refl)) | ((with_reducible first | apply Y1 | apply Y2 | apply Y3 | show blkEq _ _ _); conv => whnf))
      all_goals first
        | omega
        | rfl
        | exact hm
        | trace_state
    · have e : midF w i = putW (dropW w i) i (faultT (thOf w i) (stOf w i).2) := by rw [e0, if_pos hst]
      rw [e]
      repeat' (first | exact @id (emp _ = true) | (intro h; first | exact Bool.noConfusion h | (simp only [Qn] at h) | skip) | ((conv => whnf) <;> (first | exact trivial | apply Qa | apply And.intro | exact absurd (by assumption) hs | exact absurd (by assumption) hst | (refine CutE.at (A := Wd × Int × Int) (dropW w i, i, (stOf w i).2) ?_) | (refine CutE.at (A := Wd) (putW (dropW w i) i (faultT (thOf w i) (stOf w i).2)) ?_) | apply EntP.id 4 | apply Qb | apply Qc | apply Qd | apply Qe | apply Qf | apply Qg | apply Qh | apply Qi | exact QA | exact QP | refine QG ?_ | apply Qj | apply Qk | apply Ql | apply Qm | apply Qo | apply Qp | apply Qw | apply Qv | apply Qu | apply Qt | apply Qs | apply Qr | apply Qq | apply Qx | apply wrapS | apply Qy | (with_reducible exact lenNil) | apply Eq.refl)) | ((with_reducible first | apply Y1 | apply Y2 | apply Y3 | show blkEq _ _ _); conv => whnf))
      all_goals first
        | omega
        | rfl
        | exact hm
        | exact hhas
        | (show w.th.length ≤ 1000000; omega)
        | trace_state
  intro m hmid
  have hmid : m = midF w i := hmid
  have eF : sFlush8.res (w, i) = .s (rWd (thsW m (m.th.map (lessT i)))) := by rw [hmid]; rfl
  rw [eF]
  obtain ⟨hn, hlf⟩ := midF_th w i hh
  have hleft := left_of ho.r
  rw [← hmid] at hn hlf
  have hL : (m.th.map (lessT i)).length = m.th.length := List.length_map _
  have hget : ∀ k, k < m.th.length → (m.th.map (lessT i)).getD k default = lessT i (m.th.getD k default) := fun k hk => by
    rw [List.getD_eq_getElem?_getD, List.getElem?_map, List.getD_eq_getElem?_getD, List.getElem?_eq_getElem hk]; rfl
  repeat' (first | exact @id (emp _ = true) | (intro h; first | exact Bool.noConfusion h | (simp only [Qn] at h) | skip) | ((conv => whnf) <;> (first | exact trivial | apply Qa | apply And.intro | apply Qb | apply Qc | apply Qd | apply Qe | apply Qf | apply Qg | apply Qh | apply Qi | exact QA | exact QP | refine QG ?_ | apply Qj | apply Qk | apply Ql | apply Qm | apply Qo | apply Qp | apply Qw | apply Qv | apply Qu | apply Qt | apply Qs | apply Qr | apply Qq | apply Qx | apply wrapS | apply Qy | (with_reducible exact lenNil) | apply Eq.refl)) | ((with_reducible first | apply Y1 | apply Y2 | apply Y3 | show blkEq _ _ _); conv => whnf))
  apply LoopP.up (G := Nat) (fun k => k ≤ m.th.length) [1, 2, 4, 8, 53, 54, 55] (fun k => [(55, .i k), (8, .c (.osl 4))]) (fun k => [(4, .slc 44 13 k (slG (thE true) ((m.th.map (lessT i)).take k)))]) 5 (fun k => m.th.length - k)
  apply And.intro
  · refine CutE.at 0 ?_
    repeat' (first | exact @id (emp _ = true) | (intro h; first | exact Bool.noConfusion h | (simp only [Qn] at h) | skip) | ((conv => whnf) <;> (first | exact trivial | apply Qa | apply And.intro | apply EntP.id 5 | apply Qb | apply Qc | apply Qd | apply Qe | apply Qf | apply Qg | apply Qh | apply Qi | exact QA | exact QP | refine QG ?_ | apply Qj | apply Qk | apply Ql | apply Qm | apply Qo | apply Qp | apply Qw | apply Qv | apply Qu | apply Qt | apply Qs | apply Qr | apply Qq | apply Qx | apply wrapS | apply Qy | (with_reducible exact lenNil) | apply Eq.refl)) | ((with_reducible first | apply Y1 | apply Y2 | apply Y3 | show blkEq _ _ _); conv => whnf))
    all_goals try simp only [Int.toNat_natCast, Int.toNat_zero, ge_iff_le, gt_iff_lt, Int.ofNat_le, Int.ofNat_lt, Int.ofNat_inj] at *
    all_goals first
      | omega
      | (dsimp only; omega)
      | assumption
      | exact Up.zero _
      | (show ((8 : Nat) : Int) * _ ≤ _; omega)
      | (show _ * (8 : Nat) ≤ _; omega)
      | (show _ * (16 : Nat) ≤ _; omega)
      | (show _ * (24 : Nat) ≤ _; omega)
      | trace_state
  · intro k hk
    have h1 := hlf k
    obtain ⟨h2, h3⟩ := hleft k
    rw [← h1] at h2 h3
    have h4 := h3 i.toNat
    have h5 : 0 < (m.th.getD k default).lf.length → ∀ y, y = IntKind.i64.wrap ((m.th.getD k default).lf.getD i.toNat default - 1) → lessT i (m.th.getD k default) = leftT (m.th.getD k default) (withF (m.th.getD k default).lf i (if y > 0 then y else 0)) := fun hp y hy => by
      unfold lessT withF
      rw [if_pos hp, if_pos hh.1, dec_max h4 hy]
    have h6 : ¬ 0 < (m.th.getD k default).lf.length → lessT i (m.th.getD k default) = m.th.getD k default := fun hp => if_neg hp
    have h7 : 0 < (m.th.getD k default).lf.length → ∀ y, emp (withF (m.th.getD k default).lf i y) = false := fun hp y => by
      unfold withF
      rw [if_pos hh.1]; exact emp_set hp
    repeat' (first | exact @id (emp _ = true) | (intro h; first | exact Bool.noConfusion h | (simp only [Qn] at h) | skip) | ((conv => whnf) <;> (first | exact trivial | apply Qa | apply And.intro | refine CutE.at (A := Nat) (k + 1) ?_ | (refine EntP.at (n := 5) [] [0, 1, 2, 3, 7] ?_) | apply Qb | apply Qc | apply Qd | apply Qe | apply Qf | apply Qg | apply Qh | apply Qi | exact QA | exact QP | refine QG ?_ | apply Qj | apply Qk | apply Ql | apply Qm | apply Qo | apply Qp | apply Qw | apply Qv | apply Qu | apply Qt | apply Qs | apply Qr | apply Qq | apply Qx | apply wrapS | apply Qy | (with_reducible exact lenNil) | apply Eq.refl)) | ((with_reducible first | apply Y1 | apply Y2 | apply Y3 | show blkEq _ _ _); conv => whnf))
    all_goals try simp only [Int.toNat_natCast] at *
    all_goals first
      | omega
      | (show (k + 1) * 136 ≤ _; omega)
      | (show m.th.length - (k + 1) < m.th.length - k; omega)
      | (show (_ : Nat) ≤ 1000000; omega)
      | (refine slG_take1 (q := 13) (by omega) rfl (by assumption) (by assumption) ?_
         rw [hget k (by omega), h5 (by omega) _ rfl, thE_left (h7 (by omega) _)] <;> rfl)
      | (refine slG_take1 (q := 13) (by omega) rfl (by assumption) (by assumption) ?_
         rw [hget k (by omega), h6 (by omega)] <;> rfl)
      | (show (m.th.map (lessT i)).length = k; omega)
      | exact slG_all (L := m.th.map (lessT i)) (by omega)
      | trace_state
end Go.Eng
