/- A part of the walks, and of the machine that proves them (LtD). -/
import Derived.Test.YtgahcoccodhkmaaDoorTsA
import Derived.Test.YtgahcoccodhkmaaDoorLtA
import Derived.Test.YtgahcoccodhkmaaDoorLtPm
set_option linter.unusedVariables false
set_option linter.unusedSimpArgs false
namespace Go.Eng
open Go Go.Proofs
/-- A state's cells: the machine, how many moves each of three threads has made, and what each noted. -/
def lsC (ws ts : List Int) (d : Int) (l : List (List Put)) (a0 a1 a2 : Nat) (n0 n1 n2 : List Int) : List Cell :=
  [intsS ws, intsS ts, .i d, bufsS l, .i (a0 : Int), .i (a1 : Int), .i (a2 : Int), intsS n0, intsS n1, intsS n2]
def thI (l : List (List Put)) (a0 a1 a2 : Nat) (n0 n1 n2 : List Int) (i : Nat) : Thr := (l.getD i default, [n0, n1, n2].getD i [], [a0, a1, a2].getD i 0)
def thsL (l : List (List Put)) (a0 a1 a2 : Nat) (n0 n1 n2 : List Int) (k : Nat) : List Thr := (List.range k).map (thI l a0 a1 a2 n0 n1 n2)
structure KeyOk (ws : List Int) (l : List (List Put)) (a0 a1 a2 : Nat) (n0 n1 n2 : List Int) : Prop where
  wd : ∀ x ∈ ws, Dg x
  wl : ws.length ≤ 100
  ll : l.length ≤ 3
  th : ∀ i, i < l.length → ThrOk (thI l a0 a1 a2 n0 n1 n2 i)
  bl : ∀ i, i < l.length → (thI l a0 a1 a2 n0 n1 n2 i).1.length ≤ 100 ∧ (thI l a0 a1 a2 n0 n1 n2 i).2.1.length ≤ 100
def sKey : FSpec := spec (List Int × List Int × Int × List (List Put) × Nat × Nat × Nat × List Int × List Int × List Int) (fun (ws, ts, d, l, a0, a1, a2, n0, n1, n2) => [.agg (lsC ws ts d l a0 a1 a2 n0 n1 n2)])
  (fun (ws, _, _, l, a0, a1, a2, n0, n1, n2) => KeyOk ws l a0 a1 a2 n0 n1 n2) fun (ws, _, _, l, a0, a1, a2, n0, n1, n2) => .c (.v (.string ⟨(keyL ws (thsL l a0 a1 a2 n0 n1 n2 l.length)).toArray⟩))
def L5 : List (Nat × FSpec) := (37, sNum) :: L4
theorem L5_ok : GOK Tryd.prog (tab L5) := gok_cons num_ok L4_ok
abbrev numsL (l : List Int) : List UInt8 := l.flatMap num
theorem nums_len : ∀ l : List Int, (numsL l).length = 2 * l.length
  | [] => rfl
  | x :: l => by
    have := nums_len l
    show (num x ++ numsL l).length = _
    rw [List.length_append, this, List.length_cons]
    show 2 + 2 * l.length = 2 * (l.length + 1)
    omega
theorem nums_take {ws : List Int} {k : Nat} (h : k < ws.length) : numsL (ws.take (k + 1)) = numsL (ws.take k) ++ num (ws.getD k default) := by
  unfold numsL
  rw [List.take_add_one, List.getElem?_eq_getElem h, List.flatMap_append, List.getD_eq_getElem?_getD, List.getElem?_eq_getElem h]
  show _ ++ List.flatMap num [ws[k]] = _
  rw [List.flatMap_cons, List.flatMap_nil, List.append_nil]
  rfl
/-- What the text holds, so far. -/
structure KeyP (ws : List Int) (l : List (List Put)) (nt : Nat → List Int) (at' : Nat → Nat) (R : List UInt8) (kb : Nat → List UInt8) (k2 k3 : Nat → Nat → List UInt8) : Prop where
  b0 : kb 0 = numsL ws
  c0 : ∀ i, k2 i 0 = kb i ++ [124]
  cs : ∀ i j, j < (l.getD i default).length → k2 i (j + 1) = k2 i j ++ num ((l.getD i default).getD j default).1 ++ num ((l.getD i default).getD j default).2
  d0 : ∀ i, k3 i 0 = k2 i (l.getD i default).length ++ [47]
  ds : ∀ i m, m < (nt i).length → k3 i (m + 1) = k3 i m ++ num ((nt i).getD m default)
  bs : ∀ i, kb (i + 1) = k3 i (nt i).length ++ num (at' i : Int)
  fin : kb l.length = R
  bl : ∀ i, i ≤ l.length → (kb i).length ≤ 5000
  cl : ∀ i j, i < l.length → j ≤ (l.getD i default).length → (k2 i j).length ≤ 5000
  dl : ∀ i m, i < l.length → m ≤ (nt i).length → (k3 i m).length ≤ 5000
theorem flat_take {p : List Put} {j : Nat} (h : j < p.length) : numsL (flat (p.take (j + 1))) = numsL (flat (p.take j)) ++ num (p.getD j default).1 ++ num (p.getD j default).2 := by
  rw [take_getD (d := default) h]
  unfold numsL flat
  rw [List.flatMap_append, List.flatMap_append, List.append_assoc]
  simp
theorem flat_len (p : List Put) : (flat p).length = 2 * p.length := by
  unfold flat
  induction p with
  | nil => rfl
  | cons x p ih => rw [List.flatMap_cons, List.length_append, ih]; simp; omega
theorem thr_len (t : Thr) : (thr t).length = 4 * t.1.length + 2 * t.2.1.length + 4 := by
  show (124 :: (numsL (flat t.1) ++ 47 :: numsL (t.2.1 ++ [(t.2.2 : Int)]))).length = _
  rw [List.length_cons, List.length_append, List.length_cons, nums_len, nums_len, flat_len, List.length_append, List.length_singleton]
  omega
theorem keyP_of {ws : List Int} {l : List (List Put)} {a0 a1 a2 : Nat} {n0 n1 n2 : List Int} (h : KeyOk ws l a0 a1 a2 n0 n1 n2) :
    ∃ kb k2 k3, KeyP ws l (fun i => [n0, n1, n2].getD i []) (fun i => [a0, a1, a2].getD i 0) (keyL ws (thsL l a0 a1 a2 n0 n1 n2 l.length)) kb k2 k3 := by
  have hb : ∀ i, i ≤ l.length → (numsL ws ++ (thsL l a0 a1 a2 n0 n1 n2 i).flatMap thr).length ≤ 200 + i * 604 := by
    intro i
    induction i with
    | zero => intro _; show (numsL ws ++ []).length ≤ _; rw [List.append_nil, nums_len]; have := h.wl; omega
    | succ i ih =>
      intro hi
      have h1 := ih (by omega)
      have h2 := h.bl i (by omega)
      have e : thsL l a0 a1 a2 n0 n1 n2 (i + 1) = thsL l a0 a1 a2 n0 n1 n2 i ++ [thI l a0 a1 a2 n0 n1 n2 i] := by unfold thsL; rw [List.range_succ, List.map_append]; rfl
      rw [e, List.flatMap_append, ← List.append_assoc, List.length_append, List.flatMap_cons, List.flatMap_nil, List.append_nil, thr_len]
      omega
  have hb' : ∀ i, i ≤ l.length → (numsL ws ++ (thsL l a0 a1 a2 n0 n1 n2 i).flatMap thr).length ≤ 2100 := fun i hi => by
    have h1 := hb i hi
    have h2 := h.ll
    omega
  refine ⟨fun i => numsL ws ++ (thsL l a0 a1 a2 n0 n1 n2 i).flatMap thr, fun i j => (numsL ws ++ (thsL l a0 a1 a2 n0 n1 n2 i).flatMap thr) ++ [124] ++ numsL (flat ((l.getD i default).take j)),
    fun i m => (numsL ws ++ (thsL l a0 a1 a2 n0 n1 n2 i).flatMap thr) ++ [124] ++ numsL (flat (l.getD i default)) ++ [47] ++ numsL (([n0, n1, n2].getD i []).take m), ?_⟩
  refine ⟨?_, ?_, ?_, ?_, ?_, ?_, rfl, ?_, ?_, ?_⟩
  · show numsL ws ++ [] = _; rw [List.append_nil]
  · intro i; show _ ++ numsL (flat []) = _; exact List.append_nil _
  · intro i j hj
    show _ ++ numsL (flat ((l.getD i default).take (j + 1))) = _
    rw [flat_take hj]
    simp only [List.append_assoc]
  · intro i
    show _ ++ numsL [] = (_ ++ numsL (flat ((l.getD i default).take (l.getD i default).length))) ++ [47]
    rw [List.take_length]
    exact List.append_nil _
  · intro i m hm
    have hm : m < ([n0, n1, n2].getD i []).length := hm
    show _ ++ numsL (([n0, n1, n2].getD i []).take (m + 1)) = _
    rw [nums_take hm]
    simp only [List.append_assoc]
  · intro i
    have e : thsL l a0 a1 a2 n0 n1 n2 (i + 1) = thsL l a0 a1 a2 n0 n1 n2 i ++ [thI l a0 a1 a2 n0 n1 n2 i] := by unfold thsL; rw [List.range_succ, List.map_append]; rfl
    show numsL ws ++ (thsL l a0 a1 a2 n0 n1 n2 (i + 1)).flatMap thr = (_ ++ numsL (([n0, n1, n2].getD i []).take ([n0, n1, n2].getD i []).length)) ++ num _
    rw [e, List.flatMap_append, List.flatMap_cons, List.flatMap_nil, List.append_nil, List.take_length]
    show _ ++ (_ ++ (124 :: (numsL (flat (l.getD i default)) ++ 47 :: numsL ([n0, n1, n2].getD i [] ++ [(([a0, a1, a2].getD i 0 : Nat) : Int)])))) = _
    have e2 : ∀ (x : List Int) (v : Int), numsL (x ++ [v]) = numsL x ++ num v := fun x v => by unfold numsL; rw [List.flatMap_append, List.flatMap_cons, List.flatMap_nil, List.append_nil]
    rw [e2]
    simp only [List.append_assoc, List.cons_append, List.nil_append]
  · intro i hi; have := hb' i hi; show _ ≤ 5000; omega
  · intro i j hi hj
    have h1 := hb' i (by omega)
    have h2 := (h.bl i hi).1
    have h2 : (l.getD i default).length ≤ 100 := h2
    show (_ ++ [124] ++ numsL _).length ≤ 5000
    rw [List.length_append, List.length_append, nums_len, flat_len, List.length_take, List.length_singleton]
    omega
  · intro i m hi hm
    have h1 := hb' i (by omega)
    have h2 : (l.getD i default).length ≤ 100 := (h.bl i hi).1
    have h3 : ([n0, n1, n2].getD i []).length ≤ 100 := (h.bl i hi).2
    show (_ ++ [124] ++ numsL _ ++ [47] ++ numsL _).length ≤ 5000
    rw [List.length_append, List.length_append, List.length_append, List.length_append, nums_len, nums_len, flat_len, List.length_take, List.length_singleton, List.length_singleton]
    omega
theorem getD_in {α : Type} [Inhabited α] {L : List α} {j : Nat} (h : j < L.length) : L.getD j default ∈ L := by
  rw [List.getD_eq_getElem?_getD, List.getElem?_eq_getElem h]
  exact List.getElem_mem h
theorem at3 {a0 a1 a2 : Nat} {i : Nat} (h : i < 3) : ([(a0 : Int), (a1 : Int), (a2 : Int)].getD i 0) = (([a0, a1, a2].getD i 0 : Nat) : Int) := by
  match i, h with
  | 0, _ => rfl
  | 1, _ => rfl
  | 2, _ => rfl
theorem cat_one {l : List UInt8} {b : UInt8} (i : Nat) (hi : i < l.length + 1) (t : Nat) (ht : t < 1) : catG l.length (slG encU l) (litG 1 (encU b)) i t = slG encU (l ++ [b]) i t :=
  slG_snoc (enc := encU) rfl rfl i hi t ht
theorem cat_oneE {l l' : List UInt8} {b : UInt8} (e : l' = l ++ [b]) (i : Nat) (hi : i < l'.length) (t : Nat) (ht : t < 1) : slG encU l' i t = catG l.length (slG encU l) (litG 1 (encU b)) i t := by
  subst e
  exact (cat_one i (by simpa using hi) t ht).symm
theorem len_oneE {l l' : List UInt8} {b : UInt8} (e : l' = l ++ [b]) : l'.length = l.length + 1 := by subst e; simp
theorem len_num {l l' : List UInt8} {v : Int} (e : l' = l ++ num v) : l'.length = l.length + 2 := by subst e; rw [List.length_append]; rfl
theorem str_of (l : List UInt8) (i : Nat) (hi : i < l.length) : slG encU l i 0 = strG ⟨l.toArray⟩ i 0 := by
  unfold slG strG encU
  have e : ((⟨l.toArray⟩ : ByteArray).data.toList.getD i 0) = l.getD i 0 := rfl
  rw [e]
  rfl
theorem str_len (l : List UInt8) : l.length = strLen ⟨l.toArray⟩ := by rw [strLen_eq]; rfl
set_option maxHeartbeats 8000000 in
set_option maxRecDepth 100000 in
theorem key_ok : Meets Tryd.prog 18 sKey := by
  refine meets_plain L5_ok rfl [8, 20] (fn := Tryd.f18) rfl rfl rfl (by decide) fun ⟨ws, ts, d, l, a0, a1, a2, n0, n1, n2⟩ h => ?_
  have h : KeyOk ws l a0 a1 a2 n0 n1 n2 := h
  obtain ⟨kb, k2, k3, hk⟩ := keyP_of h
  repeat' (first | exact @id (emp _ = true) | (intro h; first | exact Bool.noConfusion h | (simp only [Qn] at h) | skip) | ((conv => whnf) <;> (first | exact trivial | apply Qa | apply And.intro | apply Qb | apply Qc | apply Qd | apply Qe | apply Qf | apply Qg | apply Qh | apply Qi | exact QA | exact QP | refine QG ?_ | apply Qj | apply Qk | apply Ql | apply Qm | apply Qo | apply Qp | apply Qw | apply Qv | apply Qu | apply Qt | apply Qs | apply Qr | apply Qq | apply Qx | apply wrapS | apply Qy | (with_reducible exact lenNil) | apply Eq.refl)) | ((with_reducible first | apply Y1 | apply Y2 | apply Y3 | show blkEq _ _ _); conv => whnf))
  apply CutP.up (G := Unit) (fun _ => True) [1, 3, 4] (fun _ => []) (fun _ => [(1, .row 77 [.osl 2]), (2, .slc 5 1 (kb 0).length (slG encU (kb 0)))]) 3
  apply And.intro
  · repeat' (first | exact @id (emp _ = true) | (intro h; first | exact Bool.noConfusion h | (simp only [Qn] at h) | skip) | ((conv => whnf) <;> (first | exact trivial | apply Qa | apply And.intro | apply Qb | apply Qc | apply Qd | apply Qe | apply Qf | apply Qg | apply Qh | apply Qi | exact QA | exact QP | refine QG ?_ | apply Qj | apply Qk | apply Ql | apply Qm | apply Qo | apply Qp | apply Qw | apply Qv | apply Qu | apply Qt | apply Qs | apply Qr | apply Qq | apply Qx | apply wrapS | apply Qy | (with_reducible exact lenNil) | apply Eq.refl)) | ((with_reducible first | apply Y1 | apply Y2 | apply Y3 | show blkEq _ _ _); conv => whnf))
    apply LoopP.up (G := Nat) (fun k => k ≤ ws.length) [1, 3, 4, 17, 18, 19] (fun k => [(19, .i k)]) (fun k => [(1, .row 77 [.osl 2]), (2, .slc 5 1 (2 * k) (slG encU (numsL (ws.take k))))]) 3 (fun k => ws.length - k)
    apply And.intro
    · refine CutE.at 0 ⟨EntP.at [⟨true, 1, 0, 5, 1⟩] [0, 1, 2] ?_, ?_⟩
      all_goals repeat' (first | exact @id (emp _ = true) | (intro h; first | exact Bool.noConfusion h | (simp only [Qn] at h) | skip) | ((conv => whnf) <;> (first | exact trivial | apply Qa | apply And.intro | apply Qb | apply Qc | apply Qd | apply Qe | apply Qf | apply Qg | apply Qh | apply Qi | exact QA | exact QP | refine QG ?_ | apply Qj | apply Qk | apply Ql | apply Qm | apply Qo | apply Qp | apply Qw | apply Qv | apply Qu | apply Qt | apply Qs | apply Qr | apply Qq | apply Qx | apply wrapS | apply Qy | (with_reducible exact lenNil) | apply Eq.refl)) | ((with_reducible first | apply Y1 | apply Y2 | apply Y3 | show blkEq _ _ _); conv => whnf))
      all_goals try simp only [Int.toNat_natCast, Int.toNat_zero, ge_iff_le, gt_iff_lt, Int.ofNat_le, Int.ofNat_lt, Int.ofNat_inj] at *
      all_goals first
        | omega
        | (dsimp only; omega)
        | assumption
        | exact Up.zero _
        | (show ((8 : Nat) : Int) * _ ≤ _; omega)
        | (show _ * (8 : Nat) ≤ _; omega)
        | (show _ * (16 : Nat) ≤ _; omega)
        | (show _ * (24 : Nat) ≤ _; omega)
        | trace_state
    · intro k hk'
      have hlen : (numsL (ws.take k)).length = 2 * k := by rw [nums_len, List.length_take, Nat.min_eq_left hk']
      have hg : ∀ k, k < ws.length → Dg (ws.getD k default) := fun k hk => by
        rw [List.getD_eq_getElem?_getD, List.getElem?_eq_getElem hk]
        exact h.wd _ (List.getElem_mem hk)
      have hwl := h.wl
      have hb0 := hk.b0
      repeat' (first | exact @id (emp _ = true) | (intro h; first | exact Bool.noConfusion h | (simp only [Qn] at h) | skip) | ((conv => whnf) <;> (first | exact trivial | apply Qa | apply And.intro | refine CutE.at (A := Nat) (k + 1) ?_ | apply Qb | apply Qc | apply Qd | apply Qe | apply Qf | apply Qg | apply Qh | apply Qi | exact QA | exact QP | refine QG ?_ | apply Qj | apply Qk | apply Ql | apply Qm | apply Qo | apply Qp | apply Qw | apply Qv | apply Qu | apply Qt | apply Qs | apply Qr | apply Qq | apply Qx | apply wrapS | apply Qy | (with_reducible exact lenNil) | apply Eq.refl)) | ((with_reducible first | apply Y1 | apply Y2 | apply Y3 | show blkEq _ _ _); conv => whnf))
      all_goals try simp only [Int.toNat_natCast] at *
      all_goals try have hlt : k < ws.length := by omega
      all_goals first
        | omega
        | exact hlen
        | exact (hg k hlt).1
        | exact (hg k hlt).2
        | (rw [hlen]; omega)
        | (rw [hlen]; done)
        | (rw [nums_take hlt]; done)
        | (rw [wrap_add1 (by omega)]; done)
        | (rw [hb0, nums_len]; omega)
        | (rw [hb0, show k = ws.length by omega, List.take_length])
        | trace_state
  rintro ⟨⟩ _
  repeat' (first | exact @id (emp _ = true) | (intro h; first | exact Bool.noConfusion h | (simp only [Qn] at h) | skip) | ((conv => whnf) <;> (first | exact trivial | apply Qa | apply And.intro | apply Qb | apply Qc | apply Qd | apply Qe | apply Qf | apply Qg | apply Qh | apply Qi | exact QA | exact QP | refine QG ?_ | apply Qj | apply Qk | apply Ql | apply Qm | apply Qo | apply Qp | apply Qw | apply Qv | apply Qu | apply Qt | apply Qs | apply Qr | apply Qq | apply Qx | apply wrapS | apply Qy | (with_reducible exact lenNil) | apply Eq.refl)) | ((with_reducible first | apply Y1 | apply Y2 | apply Y3 | show blkEq _ _ _); conv => whnf))
  apply LoopP.up (G := Nat) (fun i => i ≤ l.length) [1, 3, 4, 29, 30, 31] (fun i => [(31, .i i)]) (fun i => [(1, .row 77 [.osl 2]), (2, .slc 5 1 (kb i).length (slG encU (kb i)))]) 3 (fun i => l.length - i)
  apply And.intro
  · refine CutE.at 0 ?_
    repeat' (first | exact @id (emp _ = true) | (intro h; first | exact Bool.noConfusion h | (simp only [Qn] at h) | skip) | ((conv => whnf) <;> (first | exact trivial | apply Qa | apply And.intro | apply Qb | apply Qc | apply Qd | apply Qe | apply Qf | apply Qg | apply Qh | apply Qi | exact QA | exact QP | refine QG ?_ | apply Qj | apply Qk | apply Ql | apply Qm | apply Qo | apply Qp | apply Qw | apply Qv | apply Qu | apply Qt | apply Qs | apply Qr | apply Qq | apply Qx | apply wrapS | apply Qy | (with_reducible exact lenNil) | apply Eq.refl)) | ((with_reducible first | apply Y1 | apply Y2 | apply Y3 | show blkEq _ _ _); conv => whnf))
    all_goals try simp only [Int.toNat_natCast, Int.toNat_zero, ge_iff_le, gt_iff_lt, Int.ofNat_le, Int.ofNat_lt, Int.ofNat_inj] at *
    all_goals first
      | omega
      | (dsimp only; omega)
      | assumption
      | exact Up.zero _
      | (show ((8 : Nat) : Int) * _ ≤ _; omega)
      | (show _ * (8 : Nat) ≤ _; omega)
      | (show _ * (16 : Nat) ≤ _; omega)
      | (show _ * (24 : Nat) ≤ _; omega)
      | trace_state
  intro i hi
  have hll := h.ll
  have hbl := hk.bl i hi
  have hcl := hk.cl i
  have hdl := hk.dl i
  have htb : i < l.length → ThrOk (thI l a0 a1 a2 n0 n1 n2 i) := h.th i
  have hbb := h.bl i
  have hput : i < l.length → ∀ j, j < (l.getD i default).length → Dg ((l.getD i default).getD j default).1 ∧ Dg ((l.getD i default).getD j default).2 := fun hi j hj => by
    have hm := getD_in hj
    have h1 := (htb hi).puts
    exact ⟨h1 _ (List.mem_flatMap.2 ⟨_, hm, by simp⟩), h1 _ (List.mem_flatMap.2 ⟨_, hm, by simp⟩)⟩
  have hnt : i < l.length → ∀ j, j < ([n0, n1, n2].getD i []).length → Dg (([n0, n1, n2].getD i []).getD j default) := fun hi j hj => by
    have hm := getD_in hj
    exact (htb hi).noted _ (List.mem_append.2 (.inl hm))
  have hat : i < l.length → Dg (([a0, a1, a2].getD i 0 : Nat) : Int) := fun hi => (htb hi).noted _ (List.mem_append.2 (.inr (by simp [thI])))
  repeat' (first | exact @id (emp _ = true) | (intro h; first | exact Bool.noConfusion h | (simp only [Qn] at h) | skip) | ((conv => whnf) <;> (first | exact trivial | apply Qa | apply And.intro | refine CutE.at (A := Nat) (i + 1) ?_ | refine StrP.at ⟨(keyL ws (thsL l a0 a1 a2 n0 n1 n2 l.length)).toArray⟩ ?_ ?_ ?_ | apply Qb | apply Qc | apply Qd | apply Qe | apply Qf | apply Qg | apply Qh | apply Qi | exact QA | exact QP | refine QG ?_ | apply Qj | apply Qk | apply Ql | apply Qm | apply Qo | apply Qp | apply Qw | apply Qv | apply Qu | apply Qt | apply Qs | apply Qr | apply Qq | apply Qx | apply wrapS | apply Qy | (with_reducible exact lenNil) | apply Eq.refl)) | ((with_reducible first | apply Y1 | apply Y2 | apply Y3 | show blkEq _ _ _); conv => whnf))
  all_goals try first
    | omega
    | (show ((kb i).length + 1) * 1 ≤ 140737488355328; omega)
    | (rw [show i = l.length by omega, hk.fin]; exact str_len _)
    | (rw [show i = l.length by omega, hk.fin] at *; exact str_of _ _ (by assumption))
  apply LoopP.to (G := Nat × Unit) (fun s => s.1 ≤ (l.getD i default).length ∧ i < l.length) [1, 3, 4, 7, 29, 30, 31, 39, 40, 41] (fun s => [(41, .i s.1)]) (fun s => [(0, .row 58 (lsC ws ts d l a0 a1 a2 n0 n1 n2)), (1, .row 77 [.osl 2]), (2, .slc 5 1 (k2 i s.1).length (slG encU (k2 i s.1)))]) 3 (fun s => (l.getD i default).length - s.1)
  apply And.intro
  · refine CutE.at (A := Nat × Unit) (0, ()) ?_
    repeat' (first | exact @id (emp _ = true) | (intro h; first | exact Bool.noConfusion h | (simp only [Qn] at h) | skip) | ((conv => whnf) <;> (first | exact trivial | apply Qa | apply And.intro | apply Qb | apply Qc | apply Qd | apply Qe | apply Qf | apply Qg | apply Qh | apply Qi | exact QA | exact QP | refine QG ?_ | apply Qj | apply Qk | apply Ql | apply Qm | apply Qo | apply Qp | apply Qw | apply Qv | apply Qu | apply Qt | apply Qs | apply Qr | apply Qq | apply Qx | apply wrapS | apply Qy | (with_reducible exact lenNil) | apply Eq.refl)) | ((with_reducible first | apply Y1 | apply Y2 | apply Y3 | show blkEq _ _ _); conv => whnf))
    all_goals try simp only [Int.toNat_natCast] at *
    all_goals first
      | omega
      | exact Nat.zero_le _
      | exact cat_oneE (hk.c0 i) _ (by assumption) _ (by assumption)
      | exact len_oneE (hk.c0 i)
      | trace_state
  rintro ⟨j, _⟩ ⟨hj, hi'⟩
  have hj : j ≤ (l.getD i default).length := hj
  have hi' : i < l.length := hi'
  have hc := hcl j hi' hj
  have hp := hput hi' j
  have hcs := hk.cs i j
  have hb1 : (l.getD i default).length ≤ 100 := (hbb hi').1
  have hd0 := hdl 0 hi' (Nat.zero_le _)
  repeat' (first | exact @id (emp _ = true) | (intro h; first | exact Bool.noConfusion h | (simp only [Qn] at h) | skip) | ((conv => whnf) <;> (first | exact trivial | apply Qa | apply And.intro | refine CutE.at (A := Nat × Unit) (j + 1, ()) ?_ | apply Qb | apply Qc | apply Qd | apply Qe | apply Qf | apply Qg | apply Qh | apply Qi | exact QA | exact QP | refine QG ?_ | apply Qj | apply Qk | apply Ql | apply Qm | apply Qo | apply Qp | apply Qw | apply Qv | apply Qu | apply Qt | apply Qs | apply Qr | apply Qq | apply Qx | apply wrapS | apply Qy | (with_reducible exact lenNil) | apply Eq.refl)) | ((with_reducible first | apply Y1 | apply Y2 | apply Y3 | show blkEq _ _ _); conv => whnf))
  all_goals try (fail_if_success (with_reducible show litK _ _ _ _)); simp only [Int.toNat_natCast] at *
  all_goals try first
    | omega
    | exact (hp (by omega)).1.1
    | exact (hp (by omega)).1.2
    | exact (hp (by omega)).2.1
    | exact (hp (by omega)).2.2
    | (show ((k2 i j).length + 1) * 1 ≤ 140737488355328; omega)
    | exact len_num rfl
    | (rw [List.length_append]; show _ + 2 ≤ _; omega)
    | exact len_num (hcs (by omega))
    | (rw [hcs (by omega)] <;> rfl)
  have hd1 := hk.d0 i
  repeat' (first | exact @id (emp _ = true) | (intro h; first | exact Bool.noConfusion h | (simp only [Qn] at h) | skip) | ((conv => whnf) <;> (first | exact trivial | apply Qa | apply And.intro | refine CutP.to (G := Nat × Unit) (fun _ => True) [1, 3, 4, 7, 29, 30, 31, 60, 61, 62] (fun _ => [(60, .s (.c (intsS ([n0, n1, n2].getD i [])))), (61, .i ([n0, n1, n2].getD i []).length), (62, .i 0)]) (fun _ => [(0, .row 58 (lsC ws ts d l a0 a1 a2 n0 n1 n2)), (1, .row 77 [.osl 2]), (2, .slc 5 1 (k3 i 0).length (slG encU (k3 i 0)))]) 3 ?_ | refine CutE.at (A := Nat × Unit) (0, ()) ?_ | apply Qb | apply Qc | apply Qd | apply Qe | apply Qf | apply Qg | apply Qh | apply Qi | exact QA | exact QP | refine QG ?_ | apply Qj | apply Qk | apply Ql | apply Qm | apply Qo | apply Qp | apply Qw | apply Qv | apply Qu | apply Qt | apply Qs | apply Qr | apply Qq | apply Qx | apply wrapS | apply Qy | (with_reducible exact lenNil) | apply Eq.refl)) | ((with_reducible first | apply Y1 | apply Y2 | apply Y3 | show blkEq _ _ _); conv => whnf))
  all_goals try (fail_if_success (with_reducible show forceK _ _)); simp only [Int.toNat_natCast] at *
  all_goals try have hjj : j = (l.getD i default).length := by omega
  all_goals try rw [← hjj] at hd1
  all_goals try first
    | omega
    | exact cat_oneE hd1 _ (by assumption) _ (by assumption)
    | exact len_oneE hd1
    | (obtain rfl : i = 0 := by omega
       rfl)
    | (obtain rfl : i = 1 := by omega
       rfl)
    | (obtain rfl : i = 2 := by omega
       rfl)
  clear hd1 hcs hp hc hj hb1 hd0
  repeat' (first | exact @id (emp _ = true) | (intro h; first | exact Bool.noConfusion h | (simp only [Qn] at h) | skip) | ((conv => whnf) <;> (first | exact trivial | apply Qa | apply And.intro | apply Qb | apply Qc | apply Qd | apply Qe | apply Qf | apply Qg | apply Qh | apply Qi | exact QA | exact QP | refine QG ?_ | apply Qj | apply Qk | apply Ql | apply Qm | apply Qo | apply Qp | apply Qw | apply Qv | apply Qu | apply Qt | apply Qs | apply Qr | apply Qq | apply Qx | apply wrapS | apply Qy | (with_reducible exact lenNil) | apply Eq.refl)) | ((with_reducible first | apply Y1 | apply Y2 | apply Y3 | show blkEq _ _ _); conv => whnf))
  apply LoopP.to (G := Nat × Nat × Unit) (fun s => s.1 ≤ ([n0, n1, n2].getD i []).length) [1, 3, 4, 7, 29, 30, 31, 60, 61, 62] (fun s => [(62, .i s.1)]) (fun s => [(0, .row 58 (lsC ws ts d l a0 a1 a2 n0 n1 n2)), (1, .row 77 [.osl 2]), (2, .slc 5 1 (k3 i s.1).length (slG encU (k3 i s.1)))]) 3 (fun s => ([n0, n1, n2].getD i []).length - s.1)
  apply And.intro
  · refine CutE.at (A := Nat × Nat × Unit) (0, 0, ()) ?_
    repeat' (first | exact @id (emp _ = true) | (intro h; first | exact Bool.noConfusion h | (simp only [Qn] at h) | skip) | ((conv => whnf) <;> (first | exact trivial | apply Qa | apply And.intro | apply Qb | apply Qc | apply Qd | apply Qe | apply Qf | apply Qg | apply Qh | apply Qi | exact QA | exact QP | refine QG ?_ | apply Qj | apply Qk | apply Ql | apply Qm | apply Qo | apply Qp | apply Qw | apply Qv | apply Qu | apply Qt | apply Qs | apply Qr | apply Qq | apply Qx | apply wrapS | apply Qy | (with_reducible exact lenNil) | apply Eq.refl)) | ((with_reducible first | apply Y1 | apply Y2 | apply Y3 | show blkEq _ _ _); conv => whnf))
    all_goals first
      | exact Nat.zero_le _
      | trace_state
  rintro ⟨m, _, _⟩ hm
  have hm : m ≤ ([n0, n1, n2].getD i []).length := hm
  have hb2 : ([n0, n1, n2].getD i []).length ≤ 100 := (hbb hi').2
  have hd := hdl m hi' hm
  have hp := hnt hi' m
  have hds := hk.ds i m
  have hbs := hk.bs i
  have hat := hat hi'
  have hi3 : i < 3 := by omega
  repeat' (first | exact @id (emp _ = true) | (intro h; first | exact Bool.noConfusion h | (simp only [Qn] at h) | skip) | ((conv => whnf) <;> (first | exact trivial | apply Qa | apply And.intro | refine CutE.at (A := Nat × Nat × Unit) (m + 1, 0, ()) ?_ | refine CutE.at (A := Nat) (i + 1) ?_ | apply Qb | apply Qc | apply Qd | apply Qe | apply Qf | apply Qg | apply Qh | apply Qi | exact QA | exact QP | refine QG ?_ | apply Qj | apply Qk | apply Ql | apply Qm | apply Qo | apply Qp | apply Qw | apply Qv | apply Qu | apply Qt | apply Qs | apply Qr | apply Qq | apply Qx | apply wrapS | apply Qy | (with_reducible exact lenNil) | apply Eq.refl)) | ((with_reducible first | apply Y1 | apply Y2 | apply Y3 | show blkEq _ _ _); conv => whnf))
  all_goals try simp only [Int.toNat_natCast] at *
  all_goals try rw [at3 hi3] at *
  all_goals first
    | omega
    | exact (hp (by omega)).1
    | exact (hp (by omega)).2
    | exact hat.1
    | exact hat.2
    | exact len_num (hds (by omega))
    | (rw [hds (by omega)] <;> rfl)
    | (have hm2 : ([n0, n1, n2].getD i []).length = m := by omega
       rw [hm2] at hbs
       first
        | exact len_num hbs
        | (rw [hbs] <;> rfl))
    | trace_state
end Go.Eng
namespace Go.Eng
open Go Go.Proofs
def sClip : FSpec := spec (List Int) (fun l => [.c (intsS l)]) (fun _ => True) fun l => .c (.ro l.length 1 true (slG encI l))
set_option maxHeartbeats 4000000 in
set_option maxRecDepth 100000 in
theorem clip_ok : Meets Tryd.prog 62 sClip := by
  refine meets_plain (gok_nil _) rfl [] (fn := Tryd.f62) rfl rfl rfl (by decide) fun l _ => ?_
  repeat' (first | exact @id (emp _ = true) | (intro h; first | exact Bool.noConfusion h | (simp only [Qn] at h) | skip) | ((conv => whnf) <;> (first | exact trivial | apply Qa | apply And.intro | apply Qb | apply Qc | apply Qd | apply Qe | apply Qf | apply Qg | apply Qh | apply Qi | exact QA | exact QP | refine QG ?_ | apply Qj | apply Qk | apply Ql | apply Qm | apply Qo | apply Qp | apply Qw | apply Qv | apply Qu | apply Qt | apply Qs | apply Qr | apply Qq | apply Qx | apply wrapS | apply Qy | (with_reducible exact lenNil) | apply Eq.refl)) | ((with_reducible first | apply Y1 | apply Y2 | apply Y3 | show blkEq _ _ _); conv => whnf))
  all_goals first
    | omega
    | (show slG encI l _ _ = slG encI l (0 + _) _; rw [Nat.zero_add])
    | trace_state
def N1 : List (Nat × FSpec) := [(62, sClip)]
theorem N1_ok : GOK Tryd.prog (tab N1) := gok_cons clip_ok (gok_nil _)
/-- What thread j noted, when thread i notes v. -/
def ntU (i j : Nat) (l : List Int) (v : Int) : List Int := match Nat.beq i j with
  | true => l ++ [v]
  | false => l
def atU (i j a : Nat) : Nat := match Nat.beq i j with
  | true => a + 1
  | false => a
abbrev Raw := List Int × List Int × Int × List (List Put) × Nat × Nat × Nat × List Int × List Int × List Int
def sNote : FSpec := lentSpec 1 (List Int × List Int × Int × List (List Put) × Nat × Nat × Nat × List Int × List Int × List Int × Nat × Int) (fun (_, _, _, _, _, _, _, _, _, _, i, v) => [.c (.ptr 0 0), .i (i : Int), .i v])
  (fun (ws, ts, d, l, a0, a1, a2, n0, n1, n2, _, _) => [.row 58 (lsC ws ts d l a0 a1 a2 n0 n1 n2)]) (fun (_, _, _, _, _, _, _, n0, n1, n2, i, _) => i < 3 ∧ n0.length ≤ 1000 ∧ n1.length ≤ 1000 ∧ n2.length ≤ 1000)
  (fun _ => .tup []) fun (ws, ts, d, l, a0, a1, a2, n0, n1, n2, i, v) => [.row 58 (lsC ws ts d l a0 a1 a2 (ntU i 0 n0 v) (ntU i 1 n1 v) (ntU i 2 n2 v))]
theorem snocI {l : List Int} {v : Int} (i : Nat) (hi : i < (l ++ [v]).length) (t : Nat) (ht : t < 1) : slG encI (l ++ [v]) i t = catG l.length (slG encI l) (litG 1 (encI v)) i t :=
  (slG_snoc (enc := encI) rfl rfl i (by simpa using hi) t ht).symm
set_option maxHeartbeats 4000000 in
set_option maxRecDepth 100000 in
theorem note_ok : Meets Tryd.prog 45 sNote := by
  refine meets_lent 1 N1_ok rfl [] (fn := Tryd.f45) rfl rfl rfl (by decide) (fun _ => rfl) (fun _ => rfl) (by decide) fun ⟨ws, ts, d, l, a0, a1, a2, n0, n1, n2, i, v⟩ h => ?_
  obtain ⟨h, h0, h1, h2⟩ : i < 3 ∧ n0.length ≤ 1000 ∧ n1.length ≤ 1000 ∧ n2.length ≤ 1000 := h
  match i, h with
  | 0, _ =>
    repeat' (first | exact @id (emp _ = true) | (intro h; first | exact Bool.noConfusion h | (simp only [Qn] at h) | skip) | ((conv => whnf) <;> (first | exact trivial | apply Qa | apply And.intro | refine EntP.at [⟨true, 0, 7, 0, 0⟩] [0] ?_ | apply Qb | apply Qc | apply Qd | apply Qe | apply Qf | apply Qg | apply Qh | apply Qi | exact QA | exact QP | refine QG ?_ | apply Qj | apply Qk | apply Ql | apply Qm | apply Qo | apply Qp | apply Qw | apply Qv | apply Qu | apply Qt | apply Qs | apply Qr | apply Qq | apply Qx | apply wrapS | apply Qy | (with_reducible exact lenNil) | apply Eq.refl)) | ((with_reducible first | apply Y1 | apply Y2 | apply Y3 | show blkEq _ _ _); conv => whnf))
    all_goals first
      | omega
      | (show (n0.length + 1) * 8 ≤ 140737488355328; omega)
      | exact List.length_append
      | exact snocI _ (by assumption) _ (by assumption)
      | trace_state
  | 1, _ =>
    repeat' (first | exact @id (emp _ = true) | (intro h; first | exact Bool.noConfusion h | (simp only [Qn] at h) | skip) | ((conv => whnf) <;> (first | exact trivial | apply Qa | apply And.intro | refine EntP.at [⟨true, 0, 8, 0, 0⟩] [0] ?_ | apply Qb | apply Qc | apply Qd | apply Qe | apply Qf | apply Qg | apply Qh | apply Qi | exact QA | exact QP | refine QG ?_ | apply Qj | apply Qk | apply Ql | apply Qm | apply Qo | apply Qp | apply Qw | apply Qv | apply Qu | apply Qt | apply Qs | apply Qr | apply Qq | apply Qx | apply wrapS | apply Qy | (with_reducible exact lenNil) | apply Eq.refl)) | ((with_reducible first | apply Y1 | apply Y2 | apply Y3 | show blkEq _ _ _); conv => whnf))
    all_goals first
      | omega
      | (show (n1.length + 1) * 8 ≤ 140737488355328; omega)
      | exact List.length_append
      | exact snocI _ (by assumption) _ (by assumption)
      | trace_state
  | 2, _ =>
    repeat' (first | exact @id (emp _ = true) | (intro h; first | exact Bool.noConfusion h | (simp only [Qn] at h) | skip) | ((conv => whnf) <;> (first | exact trivial | apply Qa | apply And.intro | refine EntP.at [⟨true, 0, 9, 0, 0⟩] [0] ?_ | apply Qb | apply Qc | apply Qd | apply Qe | apply Qf | apply Qg | apply Qh | apply Qi | exact QA | exact QP | refine QG ?_ | apply Qj | apply Qk | apply Ql | apply Qm | apply Qo | apply Qp | apply Qw | apply Qv | apply Qu | apply Qt | apply Qs | apply Qr | apply Qq | apply Qx | apply wrapS | apply Qy | (with_reducible exact lenNil) | apply Eq.refl)) | ((with_reducible first | apply Y1 | apply Y2 | apply Y3 | show blkEq _ _ _); conv => whnf))
    all_goals first
      | omega
      | (show (n2.length + 1) * 8 ≤ 140737488355328; omega)
      | exact List.length_append
      | exact snocI _ (by assumption) _ (by assumption)
      | trace_state
end Go.Eng
