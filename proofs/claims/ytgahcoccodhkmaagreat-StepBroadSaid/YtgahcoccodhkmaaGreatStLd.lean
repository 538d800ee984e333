/- StepBroad, walked. -/
import Derived.Test.YtgahcoccodhkmaaGreatStBr
set_option linter.unusedVariables false
set_option linter.unusedSimpArgs false
namespace Go.Eng
open Go Go.Proofs

def modI (n : Nat) (i : Int) : Int := (IntKind.i64.wrap (i.tmod n + n)).tmod n
theorem modI_in {n : Nat} {i : Int} (hn : 1 ≤ n ∧ n ≤ 8) : 0 ≤ modI n i ∧ modI n i < n := by
  unfold modI
  have h1 := Int.tmod_lt_of_pos i (show (0 : Int) < n by omega)
  have h2 := Int.lt_tmod_of_pos i (show (0 : Int) < n by omega)
  rw [wrap_i64 (by omega)]
  have h3 := Int.tmod_lt_of_pos (i.tmod n + n) (show (0 : Int) < n by omega)
  have h4 : 0 ≤ (i.tmod n + n).tmod n := Int.tmod_nonneg _ (by omega)
  omega
def Ld1 : List (Nat × FSpec) := [(10, sAlive8), (8, sWorld8), (9, sStepA), (22, sCanA), (11, sRRightT), (24, sHasA), (25, sDo8)]
theorem Ld1_ok : GOK Tryz.prog (tab Ld1) := gok_cons alive8_ok (gok_cons world8_ok (gok_cons stepA_ok (gok_cons canA_ok (gok_cons sRRightT_ok (gok_cons hasA_ok (gok_cons do8_ok (gok_nil _)))))))
def sLBroad : FSpec := spec (List Ins × List Int × List Int × List Int × Int × List Act × List Act × Int) (fun (code, st, ws, ts, d, acts, more, i) => [.c (codeS code), .c (intsS st), .c (intsS ws), .c (intsS ts), .i d, .c (actsS acts), .c (actsS more), .i i]) (fun _ => True) fun _ => .b true
structure Bv (v : Wd) (i : Int) : Prop where
  k : Wok v
  e : v.ev.length ≤ 80
  h : 0 ≤ i ∧ i < v.th.length
structure Bu (u : Wd) (i : Int) : Prop where
  b : Br0 u i
  e : u.ev.length ≤ 80
structure Rest (P : Prop) : Prop where
  go : P
/-- A cut whose state tells all that lives. -/
theorem CutP.upE {st : St} {p : (G : Type) → (G → Prop) → (G → St) → Prop} {G : Type} (n : Nat) (I : G → Prop) (live : List Nat)
    (U : G → List (Nat × RV)) (B : G → List (Nat × Blk)) (nx' : Nat)
    (h : p G I (fun g => ⟨maskR live (U g) 0 (List.replicate n .any), B g, nx'⟩)) : CutP st p := ⟨⟨G, I, _, h⟩⟩
structure Bx (u N : Wd) (i : Int) : Prop where
  b : BrI N i (waits u) 81
  n : N.th.length = u.th.length
  k : Wok N
  u : Wok u
/-- What a broad's world is, and how many puts are still waited for. -/
def BrQ (N : Wd) (i : Int) (W : List Int) (m : Nat) : Prop := BrI N i W m
theorem map_takeW {l : List (List Put)} {k : Nat} (hk : k < l.length) : (l.map fun b => (b.length : Int)).take (k + 1) = (l.map fun b => (b.length : Int)).take k ++ [((l.getD k default).length : Int)] := by
  rw [take_getD (d := default) (by simpa using hk)]
  simp [List.getD_eq_getElem?_getD, List.getElem?_map, List.getElem?_eq_getElem hk]
set_option maxHeartbeats 40000000 in
set_option maxRecDepth 100000 in
theorem lbroad_ok : Meets Tryz.prog 6 sLBroad := by
  refine meets_plain Ld1_ok rfl [2, 4, 8, 15, 23, 31] (fn := Tryz.f6) rfl rfl rfl (by decide) fun ⟨code, st, ws, ts, d, acts, more, i0⟩ _ => ?_
  have hwk := world_kept code st ws ts d acts
  (conv => whnf)
  apply CutP.upZ (G := Wd) (fun v => worldR v = true ∧ v.ev.length ≤ 80) [6, 7, 17] (fun _ => [(17, .s (.c (.ptr 0 0)))]) (fun v => [(0, .row 33 (wdC true v))]) 1
  apply And.intro
  · repeat' (first | exact @id (emp _ = true) | (intro h; first | exact Bool.noConfusion h | (simp only [Qn] at h) | skip) | ((conv => whnf) <;> (first | exact trivial | apply Qa | apply And.intro | (refine CutE.at (A := Wd) (worldF code st ws ts d acts) ?_) | (refine CutE.at (code, st, ws, ts, d, acts) ?_) | apply Qb | apply Qc | apply Qd | apply Qe | apply Qf | apply Qg | apply Qh | apply Qi | exact QA | exact QP | refine QG ?_ | apply Qj | apply Qk | apply Ql | apply Qm | apply Qo | apply Qp | apply Qw | apply Qv | apply Qu | apply Qt | apply Qs | apply Qr | apply Qq | apply Qx | apply wrapS | apply Qy | (with_reducible exact lenNil) | apply Eq.refl)) | ((with_reducible first | apply Y1 | apply Y2 | apply Y3 | show blkEq _ _ _); conv => whnf))
    all_goals first
      | exact hwk
      | exact hwk.1
      | exact hwk.2
      | trace_state
  clear hwk
  intro v hv
  have hv : worldR v = true ∧ v.ev.length ≤ 80 := hv
  have hlv := world_len hv.1
  have hcd := (codeR_iff.1 (worldR_iff.1 hv.1).1).1
  have hm := modI_in (n := v.th.length) (i := i0) (by omega)
  repeat' (first | exact @id (emp _ = true) | (intro h; first | exact Bool.noConfusion h | (simp only [Qn] at h) | skip) | ((conv => whnf) <;> (first | exact trivial | apply Qa | apply And.intro | apply Qb | apply Qc | apply Qd | apply Qe | apply Qf | apply Qg | apply Qh | apply Qi | exact QA | exact QP | refine QG ?_ | apply Qj | apply Qk | apply Ql | apply Qm | apply Qo | apply Qp | apply Qw | apply Qv | apply Qu | apply Qt | apply Qs | apply Qr | apply Qq | apply Qx | apply wrapS | apply Qy | (with_reducible exact lenNil) | apply Eq.refl)) | ((with_reducible first | apply Y1 | apply Y2 | apply Y3 | show blkEq _ _ _); conv => whnf))
  all_goals try omega
  apply CutP.upZ (G := Wd × Int) (fun (v, i) => Bv v i) [6, 7, 17] (fun (_, i) => [(7, .s (.c (.i i))), (17, .s (.c (.ptr 0 0)))]) (fun (v, _) => [(0, .row 33 [.osl 1, intsS v.ws, intsS v.ts, .i v.d, bufsS v.l, thsS true v.th, evsS v.ev]), (1, .slc 64 4 v.code.length (slG encIns v.code))]) 2
  apply And.intro
  · repeat' (first | exact @id (emp _ = true) | (intro h; first | exact Bool.noConfusion h | (simp only [Qn] at h) | skip) | ((conv => whnf) <;> (first | exact trivial | apply Qa | apply And.intro | (refine CutE.at (A := Wd × Int) (v, modI v.th.length i0) ?_) | (refine EntP.at [] [0, 2] ?_) | apply Qb | apply Qc | apply Qd | apply Qe | apply Qf | apply Qg | apply Qh | apply Qi | exact QA | exact QP | refine QG ?_ | apply Qj | apply Qk | apply Ql | apply Qm | apply Qo | apply Qp | apply Qw | apply Qv | apply Qu | apply Qt | apply Qs | apply Qr | apply Qq | apply Qx | apply wrapS | apply Qy | (with_reducible exact lenNil) | apply Eq.refl)) | ((with_reducible first | apply Y1 | apply Y2 | apply Y3 | show blkEq _ _ _); conv => whnf))
    all_goals first
      | omega
      | (show (0 + v.code.length) * 32 ≤ _; omega)
      | exact ⟨⟨hv.1, by omega⟩, hv.2, hm⟩
      | trace_state
  rintro ⟨v, i⟩ hB
  clear hv hlv hm hcd
  have hB : Bv v i := hB
  have hh := hB.h
  have hlv := world_len hB.k.r
  have hcd := (codeR_iff.1 (worldR_iff.1 hB.k.r).1).1
  have hpc : 0 ≤ (v.th.getD i.toNat default).pc ∧ (v.th.getD i.toNat default).pc ≤ 1000 := WOk.pc ⟨hB.k.r, hB.h⟩
  have hst : (v.th.getD i.toNat default).st = 0 → ¬ (v.th.getD i.toNat default).pc ≥ v.code.length → ¬ (((v.th.getD i.toNat default).lf.length : Nat) : Int) > 0 → Br0 (brW v i) i := fun a b c => br_start hB.k hB.h a (by show (v.th.getD i.toNat default).pc < _; omega) (by show ¬ (v.th.getD i.toNat default).lf.length > 0; omega)
  have hset : ¬ (v.th.getD i.toNat default).pc ≥ v.code.length → ∀ j t, j < (brW v i).code.length → t < 4 → slG encIns (brW v i).code j t = upd2 (slG encIns v.code) (v.th.getD i.toNat default).pc.toNat 0 [.i 22, .i 0, .i 0, .i 0] j t := fun h j t hj ht =>
    (slG_set (enc := encIns) (k := 4) (i := (v.th.getD i.toNat default).pc.toNat) (x := (22, 0, 0, 0)) (fun _ => rfl) (by omega) j (by have hj : j < (v.code.set (v.th.getD i.toNat default).pc.toNat (22, 0, 0, 0)).length := hj; simpa using hj) t ht).symm
  repeat' (first | exact @id (emp _ = true) | (intro h; first | exact Bool.noConfusion h | (simp only [Qn] at h) | skip) | ((conv => whnf) <;> (first | exact trivial | apply Qa | apply And.intro | apply Qb | apply Qc | apply Qd | apply Qe | apply Qf | apply Qg | apply Qh | apply Qi | exact QA | exact QP | refine QG ?_ | apply Qj | apply Qk | apply Ql | apply Qm | apply Qo | apply Qp | apply Qw | apply Qv | apply Qu | apply Qt | apply Qs | apply Qr | apply Qq | apply Qx | apply wrapS | apply Qy | (with_reducible exact lenNil) | apply Eq.refl)) | ((with_reducible first | apply Y1 | apply Y2 | apply Y3 | show blkEq _ _ _); conv => whnf))
  all_goals try first
    | omega
    | exact hh.1
    | exact hh.2
  apply CutP.upZ (G := Wd × Int) (fun (u, i) => Bu u i) [6, 7, 17, 18] (fun (_, i) => [(7, .s (.c (.i i))), (17, .s (.c (.ptr 0 0))), (18, .s (.c (.ptr 1 0)))]) (fun (u, i) => [(0, .row 33 (wdC true u)), (1, .row 44 (thE true (thOf u i)))]) 2
  apply And.intro
  · repeat' (first | exact @id (emp _ = true) | (intro h; first | exact Bool.noConfusion h | (simp only [Qn] at h) | skip) | ((conv => whnf) <;> (first | exact trivial | apply Qa | apply And.intro | (refine CutE.at (A := Wd × Int) (brW v i, i) ?_) | (refine EntP.at [⟨true, 0, 0, 0, 0⟩] [0, 2] ?_) | apply Qb | apply Qc | apply Qd | apply Qe | apply Qf | apply Qg | apply Qh | apply Qi | exact QA | exact QP | refine QG ?_ | apply Qj | apply Qk | apply Ql | apply Qm | apply Qo | apply Qp | apply Qw | apply Qv | apply Qu | apply Qt | apply Qs | apply Qr | apply Qq | apply Qx | apply wrapS | apply Qy | (with_reducible exact lenNil) | apply Eq.refl)) | ((with_reducible first | apply Y1 | apply Y2 | apply Y3 | show blkEq _ _ _); conv => whnf))
    all_goals first
      | omega
      | exact hh.1
      | exact hh.2
      | exact hpc.1
      | (show (v.code.set _ _).length = v.code.length; exact List.length_set)
      | exact ⟨hst (by assumption) (by assumption) (by assumption), hB.e⟩
      | (show (v.th.getD i.toNat default).pc.toNat < v.code.length; omega)
      | exact hset (by assumption) _ _ (by assumption) (by assumption)
      | trace_state
  clear hB hh hlv hcd hpc hst hset
  rintro ⟨u, i⟩ hU
  have hU : Bu u i := hU
  have hh := hU.b.h
  have hlu := world_len hU.b.k.r
  have hcan := br_can hU.b
  have hIn : In8 u i := ⟨hU.b.k, hasW_iff.2 hh⟩
  obtain ⟨hs1, hs2⟩ := br_step hU.b
  have hX : Bx u (stepF u i) i := by
    have he := hU.e
    have hle := hs1.le (k := 81) (by omega)
    exact ⟨hle, hs2, ⟨hle.r, by have := hle.ev; omega⟩, hU.b.k⟩
  repeat' (first | exact @id (emp _ = true) | (intro h; first | exact Bool.noConfusion h | (simp only [Qn] at h) | skip) | ((conv => whnf) <;> (first | exact trivial | apply Qa | apply And.intro | apply Qb | apply Qc | apply Qd | apply Qe | apply Qf | apply Qg | apply Qh | apply Qi | exact QA | exact QP | refine QG ?_ | apply Qj | apply Qk | apply Ql | apply Qm | apply Qo | apply Qp | apply Qw | apply Qv | apply Qu | apply Qt | apply Qs | apply Qr | apply Qq | apply Qx | apply wrapS | apply Qy | (with_reducible exact lenNil) | apply Eq.refl)) | ((with_reducible first | apply Y1 | apply Y2 | apply Y3 | show blkEq _ _ _); conv => whnf))
  apply LoopP.up (G := Nat) (fun k => k ≤ u.th.length) [6, 7, 17, 18, 89, 90, 91] (fun k => [(91, .i k)]) (fun _ => []) 2 (fun k => u.th.length - k)
  apply And.intro
  · refine CutE.at 0 ?_
    repeat' (first | exact @id (emp _ = true) | (intro h; first | exact Bool.noConfusion h | (simp only [Qn] at h) | skip) | ((conv => whnf) <;> (first | exact trivial | apply Qa | apply And.intro | apply EntP.id 2 | apply Qb | apply Qc | apply Qd | apply Qe | apply Qf | apply Qg | apply Qh | apply Qi | exact QA | exact QP | refine QG ?_ | apply Qj | apply Qk | apply Ql | apply Qm | apply Qo | apply Qp | apply Qw | apply Qv | apply Qu | apply Qt | apply Qs | apply Qr | apply Qq | apply Qx | apply wrapS | apply Qy | (with_reducible exact lenNil) | apply Eq.refl)) | ((with_reducible first | apply Y1 | apply Y2 | apply Y3 | show blkEq _ _ _); conv => whnf))
    all_goals first
      | omega
      | trace_state
  intro k hk
  have hk : k ≤ u.th.length := hk
  repeat' (first | exact @id (emp _ = true) | (intro h; first | exact Bool.noConfusion h | (simp only [Qn] at h) | skip) | ((conv => whnf) <;> (first | exact trivial | apply Qa | apply And.intro | (refine CutE.at (A := Nat) (k + 1) ?_) | (refine EntP.at (n := 2) [] [0, 1] ?_) | apply Qb | apply Qc | apply Qd | apply Qe | apply Qf | apply Qg | apply Qh | apply Qi | exact QA | exact QP | refine QG ?_ | apply Qj | apply Qk | apply Ql | apply Qm | apply Qo | apply Qp | apply Qw | apply Qv | apply Qu | apply Qt | apply Qs | apply Qr | apply Qq | apply Qx | apply wrapS | apply Qy | (with_reducible exact lenNil) | apply Eq.refl)) | ((with_reducible first | apply Y1 | apply Y2 | apply Y3 | show blkEq _ _ _); conv => whnf))
  all_goals try first
    | omega
    | (show u.th.length - (k + 1) < u.th.length - k; omega)
    | (show k + 1 ≤ u.th.length; omega)
  apply CutP.upZ (G := Wd × Wd × Int) (fun (u, N, i) => Bx u N i) [6, 7, 17, 21, 22] (fun (_, _, i) => [(7, .s (.c (.i i))), (17, .s (.c (.ptr 0 0))), (21, .s (.c (.ptr 1 0))), (22, .s (.c (.i 0)))]) (fun (u, N, _) => [(0, .row 33 (wdC true u)), (1, .row 33 (wdC true N))]) 2
  apply And.intro
  · repeat' (first | exact @id (emp _ = true) | (intro h; first | exact Bool.noConfusion h | (simp only [Qn] at h) | skip) | ((conv => whnf) <;> (first | exact trivial | apply Qa | apply And.intro | (apply CallP.inl; apply CallP.nb; apply CutE.gh (n := 6) ((u, i))) | (refine CutE.at (A := Wd × Wd × Int) (u, stepF u i, i) ?_) | (refine EntP.at (n := 2) [] [0, 2] ?_) | apply Qb | apply Qc | apply Qd | apply Qe | apply Qf | apply Qg | apply Qh | apply Qi | exact QA | exact QP | refine QG ?_ | apply Qj | apply Qk | apply Ql | apply Qm | apply Qo | apply Qp | apply Qw | apply Qv | apply Qu | apply Qt | apply Qs | apply Qr | apply Qq | apply Qx | apply wrapS | apply Qy | (with_reducible exact lenNil) | apply Eq.refl)) | ((with_reducible first | apply Y1 | apply Y2 | apply Y3 | show blkEq _ _ _); conv => whnf))
    all_goals first
      | exact ⟨hIn, hcan⟩
      | exact hIn
      | exact hcan
      | exact hX
      | trace_state
  clear hk
  clear hX hs1 hs2 hIn hcan hlu hh hU
  rintro ⟨u, N, i⟩ hX
  have hX : Bx u N i := hX
  have hlu := world_len hX.u.r
  have hlN := world_len hX.k.r
  have hnn := hX.n
  have h80 : (more.take 80).length ≤ 80 := List.length_take_le _ _
  repeat' (first | exact @id (emp _ = true) | (intro h; first | exact Bool.noConfusion h | (simp only [Qn] at h) | skip) | ((conv => whnf) <;> (first | exact trivial | apply Qa | apply And.intro | (apply CallP.nb; apply CutE.gh (n := 18) (true, N)) | apply Qb | apply Qc | apply Qd | apply Qe | apply Qf | apply Qg | apply Qh | apply Qi | exact QA | exact QP | refine QG ?_ | apply Qj | apply Qk | apply Ql | apply Qm | apply Qo | apply Qp | apply Qw | apply Qv | apply Qu | apply Qt | apply Qs | apply Qr | apply Qq | apply Qx | apply wrapS | apply Qy | (with_reducible exact lenNil) | apply Eq.refl)) | ((with_reducible first | apply Y1 | apply Y2 | apply Y3 | show blkEq _ _ _); conv => whnf))
  all_goals try first
    | exact hX.k
    | omega
    | (exfalso; omega)
  apply CutP.upZ (G := Wd × List Int × Int) (fun (N, W, i) => BrI N i W 82) [6, 7, 21, 23] (fun (_, _, i) => [(7, .s (.c (.i i))), (21, .s (.c (.ptr 0 0))), (23, .c (.osl 1))]) (fun (N, W, _) => [(0, .row 33 (wdC true N)), (1, .slc 3 1 W.length (slG encI W))]) 2
  have hWl : (waits u).length = u.l.length := List.length_map _
  apply And.intro
  · repeat' (first | exact @id (emp _ = true) | (intro h; first | exact Bool.noConfusion h | (simp only [Qn] at h) | skip) | ((conv => whnf) <;> (first | exact trivial | apply Qa | apply And.intro | apply Qb | apply Qc | apply Qd | apply Qe | apply Qf | apply Qg | apply Qh | apply Qi | exact QA | exact QP | refine QG ?_ | apply Qj | apply Qk | apply Ql | apply Qm | apply Qo | apply Qp | apply Qw | apply Qv | apply Qu | apply Qt | apply Qs | apply Qr | apply Qq | apply Qx | apply wrapS | apply Qy | (with_reducible exact lenNil) | apply Eq.refl)) | ((with_reducible first | apply Y1 | apply Y2 | apply Y3 | show blkEq _ _ _); conv => whnf))
    apply LoopP.up (G := Nat) (fun k => k ≤ u.l.length) [6, 7, 21, 23, 136, 137, 138] (fun k => [(138, .i k), (23, .c (.osl 2))]) (fun k => [(2, .slc 3 1 k (slG encI ((waits u).take k)))]) 3 (fun k => u.l.length - k)
    apply And.intro
    · refine CutE.at 0 ⟨EntP.at [⟨false, 23, 0, 3, 1⟩] [0, 1, 2] ?_, ?_⟩
      all_goals repeat' (first | exact @id (emp _ = true) | (intro h; first | exact Bool.noConfusion h | (simp only [Qn] at h) | skip) | ((conv => whnf) <;> (first | exact trivial | apply Qa | apply And.intro | apply Qb | apply Qc | apply Qd | apply Qe | apply Qf | apply Qg | apply Qh | apply Qi | exact QA | exact QP | refine QG ?_ | apply Qj | apply Qk | apply Ql | apply Qm | apply Qo | apply Qp | apply Qw | apply Qv | apply Qu | apply Qt | apply Qs | apply Qr | apply Qq | apply Qx | apply wrapS | apply Qy | (with_reducible exact lenNil) | apply Eq.refl)) | ((with_reducible first | apply Y1 | apply Y2 | apply Y3 | show blkEq _ _ _); conv => whnf))
      all_goals first
        | omega
        | exact Nat.zero_le _
        | (rename_i i hi t; exact absurd hi (Nat.not_lt_zero _))
        | trace_state
    intro k hk
    have hk : k ≤ u.l.length := hk
    have e0 : (k : Int).toNat = k := Int.toNat_natCast k
    have hsn : k < u.l.length → (waits u).take (k + 1) = (waits u).take k ++ [((u.l.getD (k : Int).toNat default).length : Int)] := fun h => by rw [e0]; exact map_takeW h
    have hall : ¬ (k : Int) < u.l.length → (waits u).take k = waits u := fun h => List.take_of_length_le (by omega)
    repeat' (first | exact @id (emp _ = true) | (intro h; first | exact Bool.noConfusion h | (simp only [Qn] at h) | skip) | ((conv => whnf) <;> (first | exact trivial | apply Qa | apply And.intro | (refine CutE.at (A := Nat) (k + 1) ?_) | (refine CutE.at (A := Wd × List Int × Int) (N, waits u, i) ?_) | (refine EntP.at (n := 2) [] [1, 2] ?_) | (refine EntP.at (n := 3) [] [0, 1, 4] ?_) | apply Qb | apply Qc | apply Qd | apply Qe | apply Qf | apply Qg | apply Qh | apply Qi | exact QA | exact QP | refine QG ?_ | apply Qj | apply Qk | apply Ql | apply Qm | apply Qo | apply Qp | apply Qw | apply Qv | apply Qu | apply Qt | apply Qs | apply Qr | apply Qq | apply Qx | apply wrapS | apply Qy | (with_reducible exact lenNil) | apply Eq.refl)) | ((with_reducible first | apply Y1 | apply Y2 | apply Y3 | show blkEq _ _ _); conv => whnf))
    all_goals first
      | omega
      | (show (k + 1) * 8 ≤ _; omega)
      | (show u.l.length - (k + 1) < u.l.length - k; omega)
      | (show k + 1 ≤ u.l.length; omega)
      | exact hX.b.le (by omega)
      | (rw [hsn (by omega)]; exact (slG_snoc (enc := encI) (k := 1) (x := ((u.l.getD (k : Int).toNat default).length : Int)) (by rw [List.length_take]; omega) rfl _ (by assumption) _ (by assumption)).symm)
      | (show (waits u).length = k; omega)
      | (rw [hall (by assumption)])
      | trace_state
  clear hX hlu hlN hnn hWl
  rintro ⟨N, W, i⟩ hB
  have hB : BrI N i W 82 := hB
  repeat' (first | exact @id (emp _ = true) | (intro h; first | exact Bool.noConfusion h | (simp only [Qn] at h) | skip) | ((conv => whnf) <;> (first | exact trivial | apply Qa | apply And.intro | apply Qb | apply Qc | apply Qd | apply Qe | apply Qf | apply Qg | apply Qh | apply Qi | exact QA | exact QP | refine QG ?_ | apply Qj | apply Qk | apply Ql | apply Qm | apply Qo | apply Qp | apply Qw | apply Qv | apply Qu | apply Qt | apply Qs | apply Qr | apply Qq | apply Qx | apply wrapS | apply Qy | (with_reducible exact lenNil) | apply Eq.refl)) | ((with_reducible first | apply Y1 | apply Y2 | apply Y3 | show blkEq _ _ _); conv => whnf))
  all_goals try first
    | omega
    | exact Int.le_refl _
    | exact take_lo (m := 80)
    | exact take_hi (m := 80)
  apply LoopP.up (G := Nat × Wd × List Int) (fun (k, N, W) => k ≤ (more.take 80).length ∧ BrI N i W (82 + k)) [7, 21, 23, 152, 153, 154] (fun (k, _, _) => [(154, .i k), (152, .s (.c (actsS (more.take 80)))), (153, .s (.c (.i (more.take 80).length))), (23, .c (.osl 1))]) (fun (_, N, W) => [(0, .row 33 (wdC true N)), (1, .slc 3 1 W.length (slG encI W))]) 2 (fun (k, _, _) => (more.take 80).length - k)
  apply And.intro
  · refine CutE.at (A := Nat × Wd × List Int) (0, N, W) ?_
    repeat' (first | exact @id (emp _ = true) | (intro h; first | exact Bool.noConfusion h | (simp only [Qn] at h) | skip) | ((conv => whnf) <;> (first | exact trivial | apply Qa | apply And.intro | apply EntP.id 2 | apply Qb | apply Qc | apply Qd | apply Qe | apply Qf | apply Qg | apply Qh | apply Qi | exact QA | exact QP | refine QG ?_ | apply Qj | apply Qk | apply Ql | apply Qm | apply Qo | apply Qp | apply Qw | apply Qv | apply Qu | apply Qt | apply Qs | apply Qr | apply Qq | apply Qx | apply wrapS | apply Qy | (with_reducible exact lenNil) | apply Eq.refl)) | ((with_reducible first | apply Y1 | apply Y2 | apply Y3 | show blkEq _ _ _); conv => whnf))
    all_goals first
      | omega
      | exact take_len (m := 80)
      | exact congrArg Nat.cast (take_len (m := 80))
      | (apply take_cell (m := 80); assumption)
      | exact ⟨Nat.zero_le _, hB⟩
      | exact hB
      | exact Nat.zero_le _
      | trace_state
  clear hB
  generalize more.take 80 = A at *
  rintro ⟨k, N, W⟩ ⟨hk, hB⟩
  have hk : k ≤ A.length := hk
  have hB : BrI N i W (82 + k) := hB
  have e0 : (k : Int).toNat = k := Int.toNat_natCast k
  have hlN := world_len hB.r
  have hWn := hB.n
  have hev := hB.ev
  have hh := hB.h
  have hdo := @BrI.other N i W (82 + k) hB (A.getD (k : Int).toNat default)
  have hfl := @BrI.flush N i W (82 + k) hB (A.getD (k : Int).toNat default).2
  have hfin : ∀ {N' : Wd} {W' : List Int}, BrI N' i W' (82 + k + 1) → BrI N' i W' (82 + (k + 1)) := fun h => h.le (by omega)
  refine (fun (rest : Rest ?P) => ?main) ?rest
  case main =>
    by_cases hC : (A.getD (k : Int).toNat default).1 = 0 ∧ (A.getD (k : Int).toNat default).2 = i
    · repeat' (first | exact @id (emp _ = true) | (intro h; first | exact Bool.noConfusion h | (simp only [Qn] at h) | skip) | ((conv => whnf) <;> (first | exact trivial | apply Qa | apply And.intro | (exfalso; omega) | (refine CutE.at (A := Nat × Wd × List Int) (k + 1, N, W) ?_) | apply EntP.id 2 | (refine EntP.at (n := 2) [] [0, 1] ?_) | apply Qb | apply Qc | apply Qd | apply Qe | apply Qf | apply Qg | apply Qh | apply Qi | exact QA | exact QP | refine QG ?_ | apply Qj | apply Qk | apply Ql | apply Qm | apply Qo | apply Qp | apply Qw | apply Qv | apply Qu | apply Qt | apply Qs | apply Qr | apply Qq | apply Qx | apply wrapS | apply Qy | (with_reducible exact lenNil) | apply Eq.refl)) | ((with_reducible first | apply Y1 | apply Y2 | apply Y3 | show blkEq _ _ _); conv => whnf))
      all_goals first
        | omega
        | (show A.length - (k + 1) < A.length - k; omega)
        | (show k + 1 ≤ A.length; omega)
        | exact ⟨by omega, hB.le (by omega)⟩
        | exact hB.le (by omega)
        | trace_state
    have hfo := hdo hC
    by_cases hK : (A.getD (k : Int).toNat default).1 = 1
    rotate_left 1
    by_cases hZ : (A.getD (k : Int).toNat default).1 = 0
    · have hnx : BrI (doF N (A.getD (k : Int).toNat default)) i W (82 + k + 1) := hfo fun h => hK h.1
      have hsl : W.length = W.length := rfl
      repeat' (first | exact @id (emp _ = true) | (intro h; first | exact Bool.noConfusion h | (simp only [Qn] at h) | skip) | ((conv => whnf) <;> (first | exact trivial | apply Qa | apply And.intro | (exfalso; omega) | exact absurd (by assumption) hK | exact absurd (by assumption) hZ | exact absurd hZ (by assumption) | apply Qb | apply Qc | apply Qd | apply Qe | apply Qf | apply Qg | apply Qh | apply Qi | exact QA | exact QP | refine QG ?_ | apply Qj | apply Qk | apply Ql | apply Qm | apply Qo | apply Qp | apply Qw | apply Qv | apply Qu | apply Qt | apply Qs | apply Qr | apply Qq | apply Qx | apply wrapS | apply Qy | (with_reducible exact lenNil) | apply Eq.refl)) | ((with_reducible first | apply Y1 | apply Y2 | apply Y3 | show blkEq _ _ _); conv => whnf))
      all_goals try first
        | exact hh1
        | exact hB.r
        | omega
        | (exfalso; omega)
      apply CutP.upE (G := Wd × List Int) 240 (fun (N', W') => BrI N' i W' (82 + k + 1) ∧ k < A.length) [7, 21, 23, 152, 153, 154] (fun _ => [(7, .s (.c (.i i))), (21, .s (.c (.ptr 0 0))), (23, .c (.osl 1)), (152, .s (.c (actsS A))), (153, .s (.c (.i A.length))), (154, .s (.c (.i k)))]) (fun (N', W') => [(0, .row 33 (wdC true N')), (1, .slc 3 1 W'.length (slG encI W'))]) 2
      refine ⟨?_, ?_⟩
      rotate_left 1
      · have e := rest.go; exact e
      · repeat' (first | exact @id (emp _ = true) | (intro h; first | exact Bool.noConfusion h | (simp only [Qn] at h) | skip) | ((conv => whnf) <;> (first | exact trivial | apply Qa | apply And.intro | (refine CutE.at (A := Wd × Act) (N, (A.getD (k : Int).toNat default)) ?_) | (refine CutE.at (A := Wd × List Int) (doF N (A.getD (k : Int).toNat default), W) ?_) | (refine EntP.at (n := 2) [] [0, 1] ?_) | apply Qb | apply Qc | apply Qd | apply Qe | apply Qf | apply Qg | apply Qh | apply Qi | exact QA | exact QP | refine QG ?_ | apply Qj | apply Qk | apply Ql | apply Qm | apply Qo | apply Qp | apply Qw | apply Qv | apply Qu | apply Qt | apply Qs | apply Qr | apply Qq | apply Qx | apply wrapS | apply Qy | (with_reducible exact lenNil) | apply Eq.refl)) | ((with_reducible first | apply Y1 | apply Y2 | apply Y3 | show blkEq _ _ _); conv => whnf))
        all_goals first
          | exact hB.r
          | omega
          | exact ⟨hnx, by omega⟩
          | exact hnx
          | exact hsl
          | exact hset _ _ (by assumption) (by assumption)
          | trace_state
    · have hnx : BrI (doF N (A.getD (k : Int).toNat default)) i W (82 + k + 1) := hfo fun h => hK h.1
      have hsl : W.length = W.length := rfl
      repeat' (first | exact @id (emp _ = true) | (intro h; first | exact Bool.noConfusion h | (simp only [Qn] at h) | skip) | ((conv => whnf) <;> (first | exact trivial | apply Qa | apply And.intro | (exfalso; omega) | exact absurd (by assumption) hK | exact absurd (by assumption) hZ | exact absurd hZ (by assumption) | apply Qb | apply Qc | apply Qd | apply Qe | apply Qf | apply Qg | apply Qh | apply Qi | exact QA | exact QP | refine QG ?_ | apply Qj | apply Qk | apply Ql | apply Qm | apply Qo | apply Qp | apply Qw | apply Qv | apply Qu | apply Qt | apply Qs | apply Qr | apply Qq | apply Qx | apply wrapS | apply Qy | (with_reducible exact lenNil) | apply Eq.refl)) | ((with_reducible first | apply Y1 | apply Y2 | apply Y3 | show blkEq _ _ _); conv => whnf))
      all_goals try first
        | exact hh1
        | exact hB.r
        | omega
        | (exfalso; omega)
      apply CutP.upE (G := Wd × List Int) 240 (fun (N', W') => BrI N' i W' (82 + k + 1) ∧ k < A.length) [7, 21, 23, 152, 153, 154] (fun _ => [(7, .s (.c (.i i))), (21, .s (.c (.ptr 0 0))), (23, .c (.osl 1)), (152, .s (.c (actsS A))), (153, .s (.c (.i A.length))), (154, .s (.c (.i k)))]) (fun (N', W') => [(0, .row 33 (wdC true N')), (1, .slc 3 1 W'.length (slG encI W'))]) 2
      refine ⟨?_, ?_⟩
      rotate_left 1
      · have e := rest.go; exact e
      · repeat' (first | exact @id (emp _ = true) | (intro h; first | exact Bool.noConfusion h | (simp only [Qn] at h) | skip) | ((conv => whnf) <;> (first | exact trivial | apply Qa | apply And.intro | (refine CutE.at (A := Wd × Act) (N, (A.getD (k : Int).toNat default)) ?_) | (refine CutE.at (A := Wd × List Int) (doF N (A.getD (k : Int).toNat default), W) ?_) | (refine EntP.at (n := 2) [] [0, 1] ?_) | apply Qb | apply Qc | apply Qd | apply Qe | apply Qf | apply Qg | apply Qh | apply Qi | exact QA | exact QP | refine QG ?_ | apply Qj | apply Qk | apply Ql | apply Qm | apply Qo | apply Qp | apply Qw | apply Qv | apply Qu | apply Qt | apply Qs | apply Qr | apply Qq | apply Qx | apply wrapS | apply Qy | (with_reducible exact lenNil) | apply Eq.refl)) | ((with_reducible first | apply Y1 | apply Y2 | apply Y3 | show blkEq _ _ _); conv => whnf))
        all_goals first
          | exact hB.r
          | omega
          | exact ⟨hnx, by omega⟩
          | exact hnx
          | exact hsl
          | exact hset _ _ (by assumption) (by assumption)
          | trace_state
    cases hh1 : hasW N (A.getD (k : Int).toNat default).2 with
    | false =>
      have hnx : BrI (doF N (A.getD (k : Int).toNat default)) i W (82 + k + 1) := hfo fun h => by rw [hh1] at h; exact Bool.noConfusion h.2.1
      repeat' (first | exact @id (emp _ = true) | (intro h; first | exact Bool.noConfusion h | (simp only [Qn] at h) | skip) | ((conv => whnf) <;> (first | exact trivial | apply Qa | apply And.intro | (exfalso; omega) | (apply CallP.inr; apply CallP.inl; apply CallP.nb; apply CutE.gh (n := 13) ((N, (A.getD (k : Int).toNat default).2))) | apply Qb | apply Qc | apply Qd | apply Qe | apply Qf | apply Qg | apply Qh | apply Qi | exact QA | exact QP | refine QG ?_ | apply Qj | apply Qk | apply Ql | apply Qm | apply Qo | apply Qp | apply Qw | apply Qv | apply Qu | apply Qt | apply Qs | apply Qr | apply Qq | apply Qx | apply wrapS | apply Qy | (with_reducible exact lenNil) | apply Eq.refl)) | ((with_reducible first | apply Y1 | apply Y2 | apply Y3 | show blkEq _ _ _); conv => whnf))
      all_goals try first
        | exact hh1
        | exact hB.r
        | omega
        | (exfalso; omega)
      apply CutP.upE (G := Wd × List Int) 240 (fun (N', W') => BrI N' i W' (82 + k + 1) ∧ k < A.length) [7, 21, 23, 152, 153, 154] (fun _ => [(7, .s (.c (.i i))), (21, .s (.c (.ptr 0 0))), (23, .c (.osl 1)), (152, .s (.c (actsS A))), (153, .s (.c (.i A.length))), (154, .s (.c (.i k)))]) (fun (N', W') => [(0, .row 33 (wdC true N')), (1, .slc 3 1 W'.length (slG encI W'))]) 2
      refine ⟨?_, ?_⟩
      rotate_left 1
      · have e := rest.go; exact e
      · repeat' (first | exact @id (emp _ = true) | (intro h; first | exact Bool.noConfusion h | (simp only [Qn] at h) | skip) | ((conv => whnf) <;> (first | exact trivial | apply Qa | apply And.intro | (refine CutE.at (A := Wd × Act) (N, (A.getD (k : Int).toNat default)) ?_) | (refine CutE.at (A := Wd × List Int) (doF N (A.getD (k : Int).toNat default), W) ?_) | (refine EntP.at (n := 2) [] [0, 1] ?_) | apply Qb | apply Qc | apply Qd | apply Qe | apply Qf | apply Qg | apply Qh | apply Qi | exact QA | exact QP | refine QG ?_ | apply Qj | apply Qk | apply Ql | apply Qm | apply Qo | apply Qp | apply Qw | apply Qv | apply Qu | apply Qt | apply Qs | apply Qr | apply Qq | apply Qx | apply wrapS | apply Qy | (with_reducible exact lenNil) | apply Eq.refl)) | ((with_reducible first | apply Y1 | apply Y2 | apply Y3 | show blkEq _ _ _); conv => whnf))
        all_goals first
          | exact hB.r
          | omega
          | exact ⟨hnx, by omega⟩
          | exact hnx
          | exact hsl
          | exact hset _ _ (by assumption) (by assumption)
          | trace_state
    | true =>
      have hi1 := hasW_iff.1 hh1
      by_cases hL : 0 < (N.l.getD (A.getD (k : Int).toNat default).2.toNat default).length
      rotate_left 1
      · have hnx : BrI (doF N (A.getD (k : Int).toNat default)) i W (82 + k + 1) := hfo fun h => hL h.2.2
        repeat' (first | exact @id (emp _ = true) | (intro h; first | exact Bool.noConfusion h | (simp only [Qn] at h) | skip) | ((conv => whnf) <;> (first | exact trivial | apply Qa | apply And.intro | (exfalso; omega) | (apply CallP.inl; apply CallP.nb; apply CutE.gh (n := 12) ((N, (A.getD (k : Int).toNat default).2))) | apply Qb | apply Qc | apply Qd | apply Qe | apply Qf | apply Qg | apply Qh | apply Qi | exact QA | exact QP | refine QG ?_ | apply Qj | apply Qk | apply Ql | apply Qm | apply Qo | apply Qp | apply Qw | apply Qv | apply Qu | apply Qt | apply Qs | apply Qr | apply Qq | apply Qx | apply wrapS | apply Qy | (with_reducible exact lenNil) | apply Eq.refl)) | ((with_reducible first | apply Y1 | apply Y2 | apply Y3 | show blkEq _ _ _); conv => whnf))
        all_goals try first
          | exact hh1
          | exact hB.r
          | omega
          | (exfalso; omega)
        apply CutP.upE (G := Wd × List Int) 240 (fun (N', W') => BrI N' i W' (82 + k + 1) ∧ k < A.length) [7, 21, 23, 152, 153, 154] (fun _ => [(7, .s (.c (.i i))), (21, .s (.c (.ptr 0 0))), (23, .c (.osl 1)), (152, .s (.c (actsS A))), (153, .s (.c (.i A.length))), (154, .s (.c (.i k)))]) (fun (N', W') => [(0, .row 33 (wdC true N')), (1, .slc 3 1 W'.length (slG encI W'))]) 2
        refine ⟨?_, ?_⟩
        rotate_left 1
        · have e := rest.go; exact e
        · repeat' (first | exact @id (emp _ = true) | (intro h; first | exact Bool.noConfusion h | (simp only [Qn] at h) | skip) | ((conv => whnf) <;> (first | exact trivial | apply Qa | apply And.intro | (refine CutE.at (A := Wd × Act) (N, (A.getD (k : Int).toNat default)) ?_) | (refine CutE.at (A := Wd × List Int) (doF N (A.getD (k : Int).toNat default), W) ?_) | (refine EntP.at (n := 2) [] [0, 1] ?_) | apply Qb | apply Qc | apply Qd | apply Qe | apply Qf | apply Qg | apply Qh | apply Qi | exact QA | exact QP | refine QG ?_ | apply Qj | apply Qk | apply Ql | apply Qm | apply Qo | apply Qp | apply Qw | apply Qv | apply Qu | apply Qt | apply Qs | apply Qr | apply Qq | apply Qx | apply wrapS | apply Qy | (with_reducible exact lenNil) | apply Eq.refl)) | ((with_reducible first | apply Y1 | apply Y2 | apply Y3 | show blkEq _ _ _); conv => whnf))
          all_goals first
            | exact hB.r
            | omega
            | exact ⟨hnx, by omega⟩
            | exact hnx
            | exact hsl
            | exact hset _ _ (by assumption) (by assumption)
            | trace_state
      have hd : doneF N (A.getD (k : Int).toNat default) = true := by rw [doneF_else hh1 (by omega)]; exact decide_eq_true ⟨hK, hL⟩
      have hnx : BrI (doF N (A.getD (k : Int).toNat default)) i (lessW W (A.getD (k : Int).toNat default).2) (82 + k + 1) := by rw [doF_flush hd (by omega)]; exact hfl hh1
      have hsl : (lessW W (A.getD (k : Int).toNat default).2).length = W.length := lessW_len _ _
      have h08 : 0 ≤ W.getD (A.getD (k : Int).toNat default).2.toNat default ∧ W.getD (A.getD (k : Int).toNat default).2.toNat default ≤ 8 := by
        have hj : (A.getD (k : Int).toNat default).2.toNat < W.length := by omega
        rw [List.getD_eq_getElem?_getD, List.getElem?_eq_getElem hj]; exact hB.nn _ (List.getElem_mem hj)
      by_cases hP : W.getD (A.getD (k : Int).toNat default).2.toNat default > 0
      · have hset : ∀ i' t', i' < (lessW W (A.getD (k : Int).toNat default).2).length → t' < 1 → slG encI (lessW W (A.getD (k : Int).toNat default).2) i' t' = upd2 (slG encI W) (A.getD (k : Int).toNat default).2.toNat 0 [.i (IntKind.i64.wrap (W.getD (A.getD (k : Int).toNat default).2.toNat default - 1))] i' t' := fun i' t' hi' ht' => by
          rw [hsl] at hi'
          rw [wrap_i64 (by omega)]
          unfold lessW
          rw [if_pos hP]
          exact (slG_set (enc := encI) (k := 1) (i := (A.getD (k : Int).toNat default).2.toNat) (x := W.getD (A.getD (k : Int).toNat default).2.toNat default - 1) (fun _ => rfl) (by omega) i' hi' t' ht').symm
        repeat' (first | exact @id (emp _ = true) | (intro h; first | exact Bool.noConfusion h | (simp only [Qn] at h) | skip) | ((conv => whnf) <;> (first | exact trivial | apply Qa | apply And.intro | (exfalso; omega) | (apply CallP.inl; apply CallP.nb; apply CutE.gh (n := 12) ((N, (A.getD (k : Int).toNat default).2))) | apply Qb | apply Qc | apply Qd | apply Qe | apply Qf | apply Qg | apply Qh | apply Qi | exact QA | exact QP | refine QG ?_ | apply Qj | apply Qk | apply Ql | apply Qm | apply Qo | apply Qp | apply Qw | apply Qv | apply Qu | apply Qt | apply Qs | apply Qr | apply Qq | apply Qx | apply wrapS | apply Qy | (with_reducible exact lenNil) | apply Eq.refl)) | ((with_reducible first | apply Y1 | apply Y2 | apply Y3 | show blkEq _ _ _); conv => whnf))
        all_goals try first
          | exact hh1
          | exact hB.r
          | omega
          | (exfalso; omega)
        apply CutP.upE (G := Wd × List Int) 240 (fun (N', W') => BrI N' i W' (82 + k + 1) ∧ k < A.length) [7, 21, 23, 152, 153, 154] (fun _ => [(7, .s (.c (.i i))), (21, .s (.c (.ptr 0 0))), (23, .c (.osl 1)), (152, .s (.c (actsS A))), (153, .s (.c (.i A.length))), (154, .s (.c (.i k)))]) (fun (N', W') => [(0, .row 33 (wdC true N')), (1, .slc 3 1 W'.length (slG encI W'))]) 2
        refine ⟨?_, ?_⟩
        rotate_left 1
        · have e := rest.go; exact e
        · repeat' (first | exact @id (emp _ = true) | (intro h; first | exact Bool.noConfusion h | (simp only [Qn] at h) | skip) | ((conv => whnf) <;> (first | exact trivial | apply Qa | apply And.intro | (refine CutE.at (A := Wd × Act) (N, (A.getD (k : Int).toNat default)) ?_) | (refine CutE.at (A := Wd × List Int) (doF N (A.getD (k : Int).toNat default), lessW W (A.getD (k : Int).toNat default).2) ?_) | (refine EntP.at (n := 2) [] [0, 1] ?_) | apply Qb | apply Qc | apply Qd | apply Qe | apply Qf | apply Qg | apply Qh | apply Qi | exact QA | exact QP | refine QG ?_ | apply Qj | apply Qk | apply Ql | apply Qm | apply Qo | apply Qp | apply Qw | apply Qv | apply Qu | apply Qt | apply Qs | apply Qr | apply Qq | apply Qx | apply wrapS | apply Qy | (with_reducible exact lenNil) | apply Eq.refl)) | ((with_reducible first | apply Y1 | apply Y2 | apply Y3 | show blkEq _ _ _); conv => whnf))
          all_goals first
            | exact hB.r
            | omega
            | exact ⟨hnx, by omega⟩
            | exact hnx
            | exact hsl
            | exact hset _ _ (by assumption) (by assumption)
            | trace_state
      · have hset : lessW W (A.getD (k : Int).toNat default).2 = W := if_neg hP
        rw [hset] at hnx
        repeat' (first | exact @id (emp _ = true) | (intro h; first | exact Bool.noConfusion h | (simp only [Qn] at h) | skip) | ((conv => whnf) <;> (first | exact trivial | apply Qa | apply And.intro | (exfalso; omega) | (apply CallP.inl; apply CallP.nb; apply CutE.gh (n := 12) ((N, (A.getD (k : Int).toNat default).2))) | apply Qb | apply Qc | apply Qd | apply Qe | apply Qf | apply Qg | apply Qh | apply Qi | exact QA | exact QP | refine QG ?_ | apply Qj | apply Qk | apply Ql | apply Qm | apply Qo | apply Qp | apply Qw | apply Qv | apply Qu | apply Qt | apply Qs | apply Qr | apply Qq | apply Qx | apply wrapS | apply Qy | (with_reducible exact lenNil) | apply Eq.refl)) | ((with_reducible first | apply Y1 | apply Y2 | apply Y3 | show blkEq _ _ _); conv => whnf))
        all_goals try first
          | exact hh1
          | exact hB.r
          | omega
          | (exfalso; omega)
        apply CutP.upE (G := Wd × List Int) 240 (fun (N', W') => BrI N' i W' (82 + k + 1) ∧ k < A.length) [7, 21, 23, 152, 153, 154] (fun _ => [(7, .s (.c (.i i))), (21, .s (.c (.ptr 0 0))), (23, .c (.osl 1)), (152, .s (.c (actsS A))), (153, .s (.c (.i A.length))), (154, .s (.c (.i k)))]) (fun (N', W') => [(0, .row 33 (wdC true N')), (1, .slc 3 1 W'.length (slG encI W'))]) 2
        refine ⟨?_, ?_⟩
        rotate_left 1
        · have e := rest.go; exact e
        · repeat' (first | exact @id (emp _ = true) | (intro h; first | exact Bool.noConfusion h | (simp only [Qn] at h) | skip) | ((conv => whnf) <;> (first | exact trivial | apply Qa | apply And.intro | (refine CutE.at (A := Wd × Act) (N, (A.getD (k : Int).toNat default)) ?_) | (refine CutE.at (A := Wd × List Int) (doF N (A.getD (k : Int).toNat default), W) ?_) | (refine EntP.at (n := 2) [] [0, 1] ?_) | apply Qb | apply Qc | apply Qd | apply Qe | apply Qf | apply Qg | apply Qh | apply Qi | exact QA | exact QP | refine QG ?_ | apply Qj | apply Qk | apply Ql | apply Qm | apply Qo | apply Qp | apply Qw | apply Qv | apply Qu | apply Qt | apply Qs | apply Qr | apply Qq | apply Qx | apply wrapS | apply Qy | (with_reducible exact lenNil) | apply Eq.refl)) | ((with_reducible first | apply Y1 | apply Y2 | apply Y3 | show blkEq _ _ _); conv => whnf))
          all_goals first
            | exact hB.r
            | omega
            | exact ⟨hnx, by omega⟩
            | exact hnx
            | exact hsl
            | exact hset _ _ (by assumption) (by assumption)
            | trace_state
  refine ⟨?_⟩
  rintro ⟨N', W'⟩ ⟨hB', hkA⟩
  have hB' : BrI N' i W' (82 + k + 1) := hB'
  have hkA : k < A.length := hkA
  have hI' : In8 N' i := ⟨⟨hB'.r, by have := hB'.ev; omega⟩, hasW_iff.2 hB'.h⟩
  have hl' := world_len hB'.r
  have hw' := hB'.n
  have hh' := hB'.h
  have hsm := fun j => sumN_in (W'.take j) fun x hx => hB'.nn x (List.mem_of_mem_take hx)
  have hc' := hB'.can
  repeat' (first | exact @id (emp _ = true) | (intro h; first | exact Bool.noConfusion h | (simp only [Qn] at h) | skip) | ((conv => whnf) <;> (first | exact trivial | apply Qa | apply And.intro | (apply CallP.inr; apply CallP.inr; apply CallP.inr; apply CallP.inl; apply CallP.nb; apply CutE.gh (n := 4) ((N', i))) | apply Qb | apply Qc | apply Qd | apply Qe | apply Qf | apply Qg | apply Qh | apply Qi | exact QA | exact QP | refine QG ?_ | apply Qj | apply Qk | apply Ql | apply Qm | apply Qo | apply Qp | apply Qw | apply Qv | apply Qu | apply Qt | apply Qs | apply Qr | apply Qq | apply Qx | apply wrapS | apply Qy | (with_reducible exact lenNil) | apply Eq.refl)) | ((with_reducible first | apply Y1 | apply Y2 | apply Y3 | show blkEq _ _ _); conv => whnf))
  all_goals try first
    | exact hI'
    | omega
  apply LoopP.up (G := Nat × Unit) (fun (j, _) => j ≤ W'.length) [7, 21, 23, 29, 30, 31, 152, 153, 154, 212, 213, 214] (fun (j, _) => [(214, .i j), (31, .i (sumN (W'.take j)))]) (fun _ => []) 2 (fun (j, _) => W'.length - j)
  apply And.intro
  · refine CutE.at (A := Nat × Unit) (0, ()) ?_
    repeat' (first | exact @id (emp _ = true) | (intro h; first | exact Bool.noConfusion h | (simp only [Qn] at h) | skip) | ((conv => whnf) <;> (first | exact trivial | apply Qa | apply And.intro | apply EntP.id 2 | apply Qb | apply Qc | apply Qd | apply Qe | apply Qf | apply Qg | apply Qh | apply Qi | exact QA | exact QP | refine QG ?_ | apply Qj | apply Qk | apply Ql | apply Qm | apply Qo | apply Qp | apply Qw | apply Qv | apply Qu | apply Qt | apply Qs | apply Qr | apply Qq | apply Qx | apply wrapS | apply Qy | (with_reducible exact lenNil) | apply Eq.refl)) | ((with_reducible first | apply Y1 | apply Y2 | apply Y3 | show blkEq _ _ _); conv => whnf))
    all_goals first
      | omega
      | rfl
      | trace_state
  rintro ⟨j, ⟨⟩⟩ hj
  have hj : j ≤ W'.length := hj
  have e1 : (j : Int).toNat = j := Int.toNat_natCast j
  have hs1 := hsm j
  have hs2 := hsm (j + 1)
  have hln := List.length_take_le j W'
  have hln2 := List.length_take_le (j + 1) W'
  have hst : (j : Int) < W'.length → IntKind.i64.wrap (sumN (W'.take j) + W'.getD (j : Int).toNat default) = sumN (W'.take (j + 1)) := fun h => by
    have e := sumN_take (l := W') (k := j) (by omega)
    rw [e1, ← e]
    exact wrap_i64 (by omega)
  have hall : ¬ (j : Int) < W'.length → W'.take j = W' := fun h => List.take_of_length_le (by omega)
  have hfin' : ¬ (j : Int) < W'.length → (N'.th.getD i.toNat default).st = 0 → canF N' i = decide (sumN (W'.take j) = 0) := fun h1 h2 => by rw [hall h1]; exact hc' h2
  repeat' (first | exact @id (emp _ = true) | (intro h; first | exact Bool.noConfusion h | (simp only [Qn] at h) | skip) | ((conv => whnf) <;> (first | exact trivial | apply Qa | apply And.intro | (refine CutE.at (A := Nat × Unit) (j + 1, ()) ?_) | (refine CutE.at (A := Nat × Wd × List Int) (k + 1, N', W') ?_) | apply EntP.id 2 | (refine EntP.at (n := 2) [] [0, 1] ?_) | apply Qb | apply Qc | apply Qd | apply Qe | apply Qf | apply Qg | apply Qh | apply Qi | exact QA | exact QP | refine QG ?_ | apply Qj | apply Qk | apply Ql | apply Qm | apply Qo | apply Qp | apply Qw | apply Qv | apply Qu | apply Qt | apply Qs | apply Qr | apply Qq | apply Qx | apply wrapS | apply Qy | (with_reducible exact lenNil) | apply Eq.refl)) | ((with_reducible first | apply Y1 | apply Y2 | apply Y3 | show blkEq _ _ _); conv => whnf))
  all_goals first
    | omega
    | (show W'.length - (j + 1) < W'.length - j; omega)
    | (show j + 1 ≤ W'.length; omega)
    | (show A.length - (k + 1) < A.length - k; omega)
    | (show k + 1 ≤ A.length; omega)
    | exact (hst (by assumption)).symm
    | exact hst (by assumption)
    | exact hfin hB'
    | exact ⟨by omega, hfin hB'⟩
    | (exfalso; apply h; rw [hfin' (by assumption) (by assumption)]; done)
    | (exfalso; apply h; rw [hfin' (by assumption) (by assumption)]; rfl)
    | trace_state
end Go.Eng
