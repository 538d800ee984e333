/- A part of the walks, and of the machine that proves them (StA). -/
import Derived.Test.YtgahcoccodhkmaaGreatFrB
set_option linter.unusedVariables false
set_option linter.unusedSimpArgs false
namespace Go.Eng
open Go Go.Proofs
abbrev Ins := Int × Int × Int × Int
def encIns (i : Ins) : List Cell := [.i i.1, .i i.2.1, .i i.2.2.1, .i i.2.2.2]
abbrev codeS (l : List Ins) : Cell := slC 4 encIns l
def nameL : List ByteArray := [⟨#[104, 97, 108, 116]⟩, ⟨#[115, 101, 116]⟩, ⟨#[109, 111, 118, 101]⟩, ⟨#[112, 108, 117, 115]⟩, ⟨#[109, 97, 115, 107]⟩, ⟨#[97, 100, 100]⟩, ⟨#[115, 117, 98]⟩, ⟨#[97, 110, 100]⟩, ⟨#[120, 111, 114]⟩, ⟨#[108, 101, 115, 115]⟩, ⟨#[106, 117, 109, 112]⟩, ⟨#[122, 101, 114, 111]⟩, ⟨#[115, 111, 109, 101]⟩, ⟨#[99, 97, 108, 108]⟩, ⟨#[114, 101, 116]⟩, ⟨#[115, 101, 108, 102]⟩, ⟨#[108, 111, 97, 100]⟩, ⟨#[115, 116, 111, 114, 101]⟩, ⟨#[102, 101, 110, 99, 101]⟩, ⟨#[99, 97, 115]⟩, ⟨#[120, 99, 104, 103]⟩, ⟨#[102, 101, 116, 99, 104]⟩, ⟨#[98, 114, 111, 97, 100]⟩, ⟨#[119, 97, 105, 116]⟩, ⟨#[111, 119, 110]⟩, ⟨#[100, 114, 111, 112]⟩, ⟨#[109, 97, 114, 107]⟩]
def kindL : List ByteArray := [⟨#[]⟩, ⟨#[114, 110]⟩, ⟨#[114, 114]⟩, ⟨#[114, 114, 110]⟩, ⟨#[114, 114, 110]⟩, ⟨#[114, 114, 114]⟩, ⟨#[114, 114, 114]⟩, ⟨#[114, 114, 114]⟩, ⟨#[114, 114, 114]⟩, ⟨#[114, 114, 114]⟩, ⟨#[116]⟩, ⟨#[114, 116]⟩, ⟨#[114, 116]⟩, ⟨#[116]⟩, ⟨#[]⟩, ⟨#[114]⟩, ⟨#[114, 114, 110]⟩, ⟨#[114, 114, 110]⟩, ⟨#[]⟩, ⟨#[114, 114, 114]⟩, ⟨#[114, 114]⟩, ⟨#[114, 114]⟩, ⟨#[]⟩, ⟨#[114, 114]⟩, ⟨#[114, 114]⟩, ⟨#[114, 114]⟩, ⟨#[110]⟩]
def kindN : List (List Int) := [[], [114, 110], [114, 114], [114, 114, 110], [114, 114, 110], [114, 114, 114], [114, 114, 114], [114, 114, 114], [114, 114, 114], [114, 114, 114], [116], [114, 116], [114, 116], [116], [], [114], [114, 114, 110], [114, 114, 110], [], [114, 114, 114], [114, 114], [114, 114], [], [114, 114], [114, 114], [114, 114], [110]]
def opsC : List Cell := [.v (.string ⟨#[104, 97, 108, 116]⟩), .v (.string ⟨#[]⟩), .v (.string ⟨#[115, 101, 116]⟩), .v (.string ⟨#[114, 110]⟩), .v (.string ⟨#[109, 111, 118, 101]⟩), .v (.string ⟨#[114, 114]⟩), .v (.string ⟨#[112, 108, 117, 115]⟩), .v (.string ⟨#[114, 114, 110]⟩), .v (.string ⟨#[109, 97, 115, 107]⟩), .v (.string ⟨#[114, 114, 110]⟩), .v (.string ⟨#[97, 100, 100]⟩), .v (.string ⟨#[114, 114, 114]⟩), .v (.string ⟨#[115, 117, 98]⟩), .v (.string ⟨#[114, 114, 114]⟩), .v (.string ⟨#[97, 110, 100]⟩), .v (.string ⟨#[114, 114, 114]⟩), .v (.string ⟨#[120, 111, 114]⟩), .v (.string ⟨#[114, 114, 114]⟩), .v (.string ⟨#[108, 101, 115, 115]⟩), .v (.string ⟨#[114, 114, 114]⟩), .v (.string ⟨#[106, 117, 109, 112]⟩), .v (.string ⟨#[116]⟩), .v (.string ⟨#[122, 101, 114, 111]⟩), .v (.string ⟨#[114, 116]⟩), .v (.string ⟨#[115, 111, 109, 101]⟩), .v (.string ⟨#[114, 116]⟩), .v (.string ⟨#[99, 97, 108, 108]⟩), .v (.string ⟨#[116]⟩), .v (.string ⟨#[114, 101, 116]⟩), .v (.string ⟨#[]⟩), .v (.string ⟨#[115, 101, 108, 102]⟩), .v (.string ⟨#[114]⟩), .v (.string ⟨#[108, 111, 97, 100]⟩), .v (.string ⟨#[114, 114, 110]⟩), .v (.string ⟨#[115, 116, 111, 114, 101]⟩), .v (.string ⟨#[114, 114, 110]⟩), .v (.string ⟨#[102, 101, 110, 99, 101]⟩), .v (.string ⟨#[]⟩), .v (.string ⟨#[99, 97, 115]⟩), .v (.string ⟨#[114, 114, 114]⟩), .v (.string ⟨#[120, 99, 104, 103]⟩), .v (.string ⟨#[114, 114]⟩), .v (.string ⟨#[102, 101, 116, 99, 104]⟩), .v (.string ⟨#[114, 114]⟩), .v (.string ⟨#[98, 114, 111, 97, 100]⟩), .v (.string ⟨#[]⟩), .v (.string ⟨#[119, 97, 105, 116]⟩), .v (.string ⟨#[114, 114]⟩), .v (.string ⟨#[111, 119, 110]⟩), .v (.string ⟨#[114, 114]⟩), .v (.string ⟨#[100, 114, 111, 112]⟩), .v (.string ⟨#[114, 114]⟩), .v (.string ⟨#[109, 97, 114, 107]⟩), .v (.string ⟨#[110]⟩)]
/-- The sign of an operand; 0, where there is none. -/
def kdF (op : Int) (k : Nat) : Int := (kindN.getD op.toNat []).getD k 0
def kdN (op : Int) : Nat := (kindN.getD op.toNat []).length
def okV (n c v : Int) : Bool := decide (c = 0 ∧ v = 0 ∨ c = 114 ∧ 0 ≤ v ∧ v ≤ 7 ∨ c = 110 ∧ -1000000000 ≤ v ∧ v ≤ 1000000000 ∨ c = 116 ∧ 0 ≤ v ∧ v ≤ n)
def okOp (n : Int) (i : Ins) (k : Nat) : Bool := okV n (kdF i.1 k) ([i.2.1, i.2.2.1, i.2.2.2].getD k 0)
def insR (n : Int) (i : Ins) : Bool := decide (0 ≤ i.1 ∧ i.1 ≤ 26) && (List.range 3).all (okOp n i)
def codeR (c : List Ins) : Bool := decide (c.length ≤ 1000) && c.all (insR c.length)
theorem insR_iff {n : Int} {i : Ins} : insR n i = true ↔ (0 ≤ i.1 ∧ i.1 ≤ 26) ∧ ∀ k, k < 3 → okOp n i k = true := by
  simp only [insR, Bool.and_eq_true, decide_eq_true_eq, List.all_eq_true, List.mem_range]
theorem insR_no {n : Int} {i : Ins} (h : ¬ ((0 ≤ i.1 ∧ i.1 ≤ 26) ∧ ∀ k, k < 3 → okOp n i k = true)) : insR n i = false := by
  cases e : insR n i with
  | false => rfl
  | true => exact absurd (insR_iff.1 e) h
def kindS (op : Int) : ByteArray := kindL.getD op.toNat ByteArray.empty
theorem kinds_spec {op : Int} (h : 0 ≤ op ∧ op ≤ 26) : strLen (kindS op) = kdN op ∧ kdN op ≤ 3 ∧ (∀ k, k < kdN op → strAt (kindS op) k = kdF op k ∧ (kdF op k = 114 ∨ kdF op k = 110 ∨ kdF op k = 116)) ∧ ∀ k, kdN op ≤ k → kdF op k = 0 := by
  have key : ∀ j : Fin 27, (kindL.getD j.1 ByteArray.empty).size = kdN (j.1 : Int) ∧ kdN (j.1 : Int) ≤ 3 ∧ ∀ k : Fin 3, k.1 < kdN (j.1 : Int) → (((kindL.getD j.1 ByteArray.empty).data.getD k.1 0).toNat : Int) = kdF (j.1 : Int) k.1 ∧ (kdF (j.1 : Int) k.1 = 114 ∨ kdF (j.1 : Int) k.1 = 110 ∨ kdF (j.1 : Int) k.1 = 116) := by decide
  obtain ⟨k1, k2, k3⟩ := key ⟨op.toNat, by omega⟩
  have e : ((op.toNat : Nat) : Int) = op := by omega
  simp only [e] at k1 k2 k3
  unfold strLen strAt kindS
  refine ⟨k1, k2, fun k hk => k3 ⟨k, by omega⟩ hk, fun k hk => ?_⟩
  unfold kdF
  rw [List.getD_eq_getElem?_getD, List.getElem?_eq_none hk]; rfl
def sInA : FSpec := spec (Int × Int × Int) (fun (n, lo, hi) => [.i n, .i lo, .i hi]) (fun _ => True) fun (n, lo, hi) => .b (decide (lo ≤ n ∧ n ≤ hi))
set_option maxHeartbeats 4000000 in
set_option maxRecDepth 100000 in
theorem inA_ok : Meets Tryz.prog 82 sInA := by
  refine meets_plain (gok_nil _) rfl [] (fn := Tryz.f82) rfl rfl rfl (by decide) fun ⟨n, lo, hi⟩ _ => ?_
  repeat' (first | exact @id (emp _ = true) | (intro h; first | exact Bool.noConfusion h | (simp only [Qn] at h) | skip) | ((conv => whnf) <;> (first | exact trivial | apply Qa | apply And.intro | apply Qb | apply Qc | apply Qd | apply Qe | apply Qf | apply Qg | apply Qh | apply Qi | exact QA | exact QP | refine QG ?_ | apply Qj | apply Qk | apply Ql | apply Qm | apply Qo | apply Qp | apply Qw | apply Qv | apply Qu | apply Qt | apply Qs | apply Qr | apply Qq | apply Qx | apply wrapS | apply Qy | (with_reducible exact lenNil) | apply Eq.refl)) | ((with_reducible first | apply Y1 | apply Y2 | apply Y3 | show blkEq _ _ _); conv => whnf))
  all_goals first
    | ((first | (apply decide_eq_false; omega) | (apply decide_eq_true; omega) | (congr 1; apply propext; omega)))
    | trace_state
def sOps : FSpec := spec Unit (fun _ => []) (fun _ => True) fun _ => .s (.agg opsC)
set_option maxHeartbeats 4000000 in
set_option maxRecDepth 100000 in
theorem operations_ok : Meets Tryz.prog 80 sOps := by
  refine meets_plain (gok_nil _) rfl [] (fn := Tryz.f80) rfl rfl rfl (by decide) fun _ _ => ?_
  repeat' (first | exact @id (emp _ = true) | (intro h; first | exact Bool.noConfusion h | (simp only [Qn] at h) | skip) | ((conv => whnf) <;> (first | exact trivial | apply Qa | apply And.intro | apply Qb | apply Qc | apply Qd | apply Qe | apply Qf | apply Qg | apply Qh | apply Qi | exact QA | exact QP | refine QG ?_ | apply Qj | apply Qk | apply Ql | apply Qm | apply Qo | apply Qp | apply Qw | apply Qv | apply Qu | apply Qt | apply Qs | apply Qr | apply Qq | apply Qx | apply wrapS | apply Qy | (with_reducible exact lenNil) | apply Eq.refl)) | ((with_reducible first | apply Y1 | apply Y2 | apply Y3 | show blkEq _ _ _); conv => whnf))
def sOperands : FSpec := spec Ins (fun i => [.agg (encIns i)]) (fun _ => True) fun i => .s (.agg [.i i.2.1, .i i.2.2.1, .i i.2.2.2])
set_option maxHeartbeats 4000000 in
set_option maxRecDepth 100000 in
theorem operands_ok : Meets Tryz.prog 83 sOperands := by
  refine meets_plain (gok_nil _) rfl [] (fn := Tryz.f83) rfl rfl rfl (by decide) fun _ _ => ?_
  repeat' (first | exact @id (emp _ = true) | (intro h; first | exact Bool.noConfusion h | (simp only [Qn] at h) | skip) | ((conv => whnf) <;> (first | exact trivial | apply Qa | apply And.intro | apply Qb | apply Qc | apply Qd | apply Qe | apply Qf | apply Qg | apply Qh | apply Qi | exact QA | exact QP | refine QG ?_ | apply Qj | apply Qk | apply Ql | apply Qm | apply Qo | apply Qp | apply Qw | apply Qv | apply Qu | apply Qt | apply Qs | apply Qr | apply Qq | apply Qx | apply wrapS | apply Qy | (with_reducible exact lenNil) | apply Eq.refl)) | ((with_reducible first | apply Y1 | apply Y2 | apply Y3 | show blkEq _ _ _); conv => whnf))
def A1 : List (Nat × FSpec) := [(82, sInA), (80, sOps), (83, sOperands)]
theorem A1_ok : GOK Tryz.prog (tab A1) := gok_cons inA_ok (gok_cons operations_ok (gok_cons operands_ok (gok_nil _)))
def sMay1 : FSpec := lentSpec 2 (Ins × List Ins) (fun (i, _) => [.agg (encIns i), .c (.ptr 0 0), .c (.ptr 1 0)]) (fun (_, c) => [.row 119 opsC, .row 22 [codeS c]]) (fun _ => True) (fun (i, c) => .b (insR c.length i))
  fun (_, c) => [.row 119 opsC, .row 22 [codeS c]]
theorem okV_r {n c v lo hi : Int} {b : Bool} (hc : c = 114) (h : decide (lo ≤ v ∧ v ≤ hi) = b) (hl : lo = 0) (hh : hi = 7) : okV n c v = b := by
  subst hc hl hh; rw [← h]; unfold okV; congr 1; apply propext; omega
theorem okV_n {n c v lo hi : Int} {b : Bool} (hc : c = 110) (h : decide (lo ≤ v ∧ v ≤ hi) = b) (hl : lo = -1000000000) (hh : hi = 1000000000) : okV n c v = b := by
  subst hc hl hh; rw [← h]; unfold okV; congr 1; apply propext; omega
theorem okV_t {n c v lo hi : Int} {b : Bool} (hc : c = 116) (h : decide (lo ≤ v ∧ v ≤ hi) = b) (hl : lo = 0) (hh : hi = n) : okV n c v = b := by
  subst hc hl hh; rw [← h]; unfold okV; congr 1; apply propext; omega
theorem okV_0 {n c v lo hi : Int} {b : Bool} (hc : c = 0) (h : decide (lo ≤ v ∧ v ≤ hi) = b) (hl : lo = 0) (hh : hi = 0) : okV n c v = b := by
  subst hc hl hh; rw [← h]; unfold okV; congr 1; apply propext; omega
set_option maxHeartbeats 4000000 in
set_option maxRecDepth 100000 in
theorem may1_ok : Meets Tryz.prog 81 sMay1 := by
  refine meets_lent 2 A1_ok rfl [] (fn := Tryz.f81) rfl rfl rfl (by decide) (fun _ => rfl) (fun _ => rfl) (by decide) fun ⟨⟨op, a, b, c⟩, code⟩ _ => ?_
  have hno : ¬ (0 ≤ op ∧ op ≤ 26) → insR code.length (op, a, b, c) = false := fun h => insR_no fun hh => h hh.1
  have hF : ∀ k, k < 3 → okOp code.length (op, a, b, c) k = false → insR code.length (op, a, b, c) = false := fun k hk h => insR_no fun hh => Bool.noConfusion ((hh.2 k hk).symm.trans h)
  repeat' (first | exact @id (emp _ = true) | (intro h; first | exact Bool.noConfusion h | (simp only [Qn] at h) | skip) | ((conv => whnf) <;> (first | exact trivial | apply Qa | apply And.intro | apply Qb | apply Qc | apply Qd | apply Qe | apply Qf | apply Qg | apply Qh | apply Qi | exact QA | exact QP | refine QG ?_ | apply Qj | apply Qk | apply Ql | apply Qm | apply Qo | apply Qp | apply Qw | apply Qv | apply Qu | apply Qt | apply Qs | apply Qr | apply Qq | apply Qx | apply wrapS | apply Qy | (with_reducible exact lenNil) | apply Eq.refl)) | ((with_reducible first | apply Y1 | apply Y2 | apply Y3 | show blkEq _ _ _); conv => whnf))
  all_goals try omega
  · exact hno (by simpa using h)
  obtain ⟨s1, s2, s3, s4⟩ := kinds_spec h
  apply LoopP.up (G := Nat) (fun k => k ≤ 3 ∧ Up k fun j => okOp code.length (op, a, b, c) j = true) [2, 5, 20, 21] (fun k => [(21, .i k)]) (fun _ => []) 3 (fun k => 3 - k)
  apply And.intro
  · refine CutE.at 0 ?_
    repeat' (first | exact @id (emp _ = true) | (intro h; first | exact Bool.noConfusion h | (simp only [Qn] at h) | skip) | ((conv => whnf) <;> (first | exact trivial | apply Qa | apply And.intro | apply EntP.id 3 | apply Qb | apply Qc | apply Qd | apply Qe | apply Qf | apply Qg | apply Qh | apply Qi | exact QA | exact QP | refine QG ?_ | apply Qj | apply Qk | apply Ql | apply Qm | apply Qo | apply Qp | apply Qw | apply Qv | apply Qu | apply Qt | apply Qs | apply Qr | apply Qq | apply Qx | apply wrapS | apply Qy | (with_reducible exact lenNil) | apply Eq.refl)) | ((with_reducible first | apply Y1 | apply Y2 | apply Y3 | show blkEq _ _ _); conv => whnf))
    all_goals try simp only [Int.toNat_natCast, Int.toNat_zero, ge_iff_le, gt_iff_lt, Int.ofNat_le, Int.ofNat_lt, Int.ofNat_inj] at *
    all_goals first
      | omega
      | (dsimp only; omega)
      | assumption
      | exact Up.zero _
      | (show ((8 : Nat) : Int) * _ ≤ _; omega)
      | (show _ * (8 : Nat) ≤ _; omega)
      | (show _ * (16 : Nat) ≤ _; omega)
      | (show _ * (24 : Nat) ≤ _; omega)
      | trace_state
  · intro k ⟨hk, hu⟩
    have hF := hF k
    have s3 := s3 k
    have s4 := s4 k
    have hv : okOp code.length (op, a, b, c) k = okV code.length (kdF op k) ([a, b, c].getD (Int.toNat (k : Int)) 0) := by rw [Int.toNat_natCast]; rfl
    have g1 : (k : Int) < ((strLen (kindS op) : Nat) : Int) → strAt (kindS op) (Int.toNat (k : Int)) = 114 → ∀ {r}, decide ((0 : Int) ≤ [a, b, c].getD (Int.toNat (k : Int)) 0 ∧ [a, b, c].getD (Int.toNat (k : Int)) 0 ≤ 7) = r → okOp code.length (op, a, b, c) k = r := fun h1 h2 r h3 => by
      rw [Int.toNat_natCast, (s3 (by omega)).1] at h2
      rw [hv]; exact okV_r h2 h3 rfl rfl
    have g2 : (k : Int) < ((strLen (kindS op) : Nat) : Int) → strAt (kindS op) (Int.toNat (k : Int)) = 110 → ∀ {r}, decide ((-1000000000 : Int) ≤ [a, b, c].getD (Int.toNat (k : Int)) 0 ∧ [a, b, c].getD (Int.toNat (k : Int)) 0 ≤ 1000000000) = r → okOp code.length (op, a, b, c) k = r := fun h1 h2 r h3 => by
      rw [Int.toNat_natCast, (s3 (by omega)).1] at h2
      rw [hv]; exact okV_n h2 h3 rfl rfl
    have g3 : (k : Int) < ((strLen (kindS op) : Nat) : Int) → ¬ strAt (kindS op) (Int.toNat (k : Int)) = 114 → ¬ strAt (kindS op) (Int.toNat (k : Int)) = 110 → ∀ {r}, decide ((0 : Int) ≤ [a, b, c].getD (Int.toNat (k : Int)) 0 ∧ [a, b, c].getD (Int.toNat (k : Int)) 0 ≤ code.length) = r → okOp code.length (op, a, b, c) k = r := fun h1 h2 h2' r h3 => by
      rw [Int.toNat_natCast, (s3 (by omega)).1] at h2 h2'
      rw [hv]
      refine okV_t ?_ h3 rfl rfl
      rcases (s3 (by omega)).2 with h | h | h
      · exact absurd h h2
      · exact absurd h h2'
      · exact h
    have g4 : ¬ (k : Int) < ((strLen (kindS op) : Nat) : Int) → ∀ {r}, decide ((0 : Int) ≤ [a, b, c].getD (Int.toNat (k : Int)) 0 ∧ [a, b, c].getD (Int.toNat (k : Int)) 0 ≤ 0) = r → okOp code.length (op, a, b, c) k = r := fun h1 r h3 => by
      rw [hv]; exact okV_0 (s4 (by omega)) h3 rfl rfl
    repeat' (first | exact @id (emp _ = true) | (intro h; first | exact Bool.noConfusion h | (simp only [Qn] at h) | skip) | ((conv => whnf) <;> (first | exact trivial | apply Qa | apply And.intro | refine CutE.at (A := Nat) (k + 1) ?_ | apply EntP.id 3 | apply Qb | apply Qc | apply Qd | apply Qe | apply Qf | apply Qg | apply Qh | apply Qi | exact QA | exact QP | refine QG ?_ | apply Qj | apply Qk | apply Ql | apply Qm | apply Qo | apply Qp | apply Qw | apply Qv | apply Qu | apply Qt | apply Qs | apply Qr | apply Qq | apply Qx | apply wrapS | apply Qy | (with_reducible exact lenNil) | apply Eq.refl)) | ((with_reducible first | apply Y1 | apply Y2 | apply Y3 | show blkEq _ _ _); conv => whnf))
    all_goals try omega
    all_goals first
      | (show 3 - (k + 1) < 3 - k; omega)
      | exact insR_iff.2 ⟨by assumption, fun j hj => hu.get j (by omega)⟩
      | exact hF (by omega) (g1 (by assumption) (by assumption) (decide_eq_false (by assumption)))
      | exact hu.succ (g1 (by assumption) (by assumption) (decide_eq_true (by assumption)))
      | exact hF (by omega) (g2 (by assumption) (by assumption) (decide_eq_false (by assumption)))
      | exact hu.succ (g2 (by assumption) (by assumption) (decide_eq_true (by assumption)))
      | exact hF (by omega) (g3 (by assumption) (by assumption) (by assumption) (decide_eq_false (by assumption)))
      | exact hu.succ (g3 (by assumption) (by assumption) (by assumption) (decide_eq_true (by assumption)))
      | exact hF (by omega) (g4 (by assumption) (decide_eq_false (by assumption)))
      | exact hu.succ (g4 (by assumption) (decide_eq_true (by assumption)))
      | trace_state
end Go.Eng
namespace Go.Eng
open Go Go.Proofs
abbrev mayB (c : List Ins) : List Blk := [.row 124 [.fn 81 [.ptr 1 0, .ptr 2 0]], .row 119 opsC, .row 22 [codeS c]]
def sMay2 : FSpec := lentSpec 3 (Ins × List Ins) (fun (i, _) => [.agg (encIns i), .c (.ptr 0 0)]) (fun (_, c) => mayB c) (fun _ => True) (fun (i, c) => .b (!insR c.length i)) fun (_, c) => mayB c
def A2 : List (Nat × FSpec) := (81, sMay1) :: A1
theorem A2_ok : GOK Tryz.prog (tab A2) := gok_cons may1_ok A1_ok
set_option maxHeartbeats 4000000 in
set_option maxRecDepth 100000 in
theorem may2_ok : Meets Tryz.prog 85 sMay2 := by
  refine meets_lent 3 A2_ok rfl [] (fn := Tryz.f85) rfl rfl rfl (by decide) (fun _ => rfl) (fun _ => rfl) (by decide) fun ⟨⟨op, a, b, c⟩, code⟩ _ => ?_
  repeat' (first | exact @id (emp _ = true) | (intro h; first | exact Bool.noConfusion h | (simp only [Qn] at h) | skip) | ((conv => whnf) <;> (first | exact trivial | apply Qa | apply And.intro | refine CutE.at ((op, a, b, c), code) ?_ | apply Qb | apply Qc | apply Qd | apply Qe | apply Qf | apply Qg | apply Qh | apply Qi | exact QA | exact QP | refine QG ?_ | apply Qj | apply Qk | apply Ql | apply Qm | apply Qo | apply Qp | apply Qw | apply Qv | apply Qu | apply Qt | apply Qs | apply Qr | apply Qq | apply Qx | apply wrapS | apply Qy | (with_reducible exact lenNil) | apply Eq.refl)) | ((with_reducible first | apply Y1 | apply Y2 | apply Y3 | show blkEq _ _ _); conv => whnf))
  all_goals trace_state
def A3 : List (Nat × FSpec) := (85, sMay2) :: A2
theorem A3_ok : GOK Tryz.prog (tab A3) := gok_cons may2_ok A2_ok
def sInsIdx : FSpec := lentSpec 3 (List Ins × List Ins) (fun (b, c) => [.c (codeS b), .c (.fn 85 [.ptr 0 0])]) (fun (b, c) => mayB c) (fun (b, c) => b.length ≤ 1000000)
  (fun (b, c) => .i (idxW (fun i => !insR c.length i) b 0)) fun (b, c) => mayB c
set_option maxHeartbeats 4000000 in
set_option maxRecDepth 100000 in
theorem InsIdx_ok : Meets Tryz.prog 125 sInsIdx := by
  refine meets_lent 3 A3_ok rfl [] (fn := Tryz.f125) rfl rfl rfl (by decide) (fun _ => rfl) (fun _ => rfl) (by decide) fun ⟨b, c⟩ hb => ?_
  have hb : b.length ≤ 1000000 := hb
  repeat' (first | exact @id (emp _ = true) | (intro h; first | exact Bool.noConfusion h | (simp only [Qn] at h) | skip) | ((conv => whnf) <;> (first | exact trivial | apply Qa | apply And.intro | apply Qb | apply Qc | apply Qd | apply Qe | apply Qf | apply Qg | apply Qh | apply Qi | exact QA | exact QP | refine QG ?_ | apply Qj | apply Qk | apply Ql | apply Qm | apply Qo | apply Qp | apply Qw | apply Qv | apply Qu | apply Qt | apply Qs | apply Qr | apply Qq | apply Qx | apply wrapS | apply Qy | (with_reducible exact lenNil) | apply Eq.refl)) | ((with_reducible first | apply Y1 | apply Y2 | apply Y3 | show blkEq _ _ _); conv => whnf))
  apply LoopP.up (G := Nat) (fun k => k ≤ b.length ∧ idxW (fun i => !insR c.length i) b 0 = idxW (fun i => !insR c.length i) (b.drop k) k) [0, 1, 7, 8] (fun k => [(8, .i k)]) (fun _ => []) 3 (fun k => b.length - k)
  apply And.intro
  · refine CutE.at 0 ?_
    repeat' (first | exact @id (emp _ = true) | (intro h; first | exact Bool.noConfusion h | (simp only [Qn] at h) | skip) | ((conv => whnf) <;> (first | exact trivial | apply Qa | apply And.intro | apply EntP.id 3 | apply Qb | apply Qc | apply Qd | apply Qe | apply Qf | apply Qg | apply Qh | apply Qi | exact QA | exact QP | refine QG ?_ | apply Qj | apply Qk | apply Ql | apply Qm | apply Qo | apply Qp | apply Qw | apply Qv | apply Qu | apply Qt | apply Qs | apply Qr | apply Qq | apply Qx | apply wrapS | apply Qy | (with_reducible exact lenNil) | apply Eq.refl)) | ((with_reducible first | apply Y1 | apply Y2 | apply Y3 | show blkEq _ _ _); conv => whnf))
    all_goals try simp only [Int.toNat_natCast, Int.toNat_zero, ge_iff_le, gt_iff_lt, Int.ofNat_le, Int.ofNat_lt, Int.ofNat_inj] at *
    all_goals first
      | omega
      | (dsimp only; omega)
      | assumption
      | exact Up.zero _
      | (show ((8 : Nat) : Int) * _ ≤ _; omega)
      | (show _ * (8 : Nat) ≤ _; omega)
      | (show _ * (16 : Nat) ≤ _; omega)
      | (show _ * (24 : Nat) ≤ _; omega)
      | trace_state
  · intro k ⟨hk, hI⟩
    have hs : k < b.length → idxW (fun i => !insR c.length i) (b.drop k) k = if (fun i => !insR c.length i) (b.getD k default) = true then (k : Int) else idxW (fun i => !insR c.length i) (b.drop (k + 1)) (k + 1) := fun h => by rw [drop_getD (d := default) h, idxW]
    repeat' (first | exact @id (emp _ = true) | (intro h; first | exact Bool.noConfusion h | (simp only [Qn] at h) | skip) | ((conv => whnf) <;> (first | exact trivial | apply Qa | apply And.intro | refine CutE.at (A := Nat) (k + 1) ?_ | apply EntP.id 3 | refine CutE.at (b.getD k default, c) ?_ | apply Qb | apply Qc | apply Qd | apply Qe | apply Qf | apply Qg | apply Qh | apply Qi | exact QA | exact QP | refine QG ?_ | apply Qj | apply Qk | apply Ql | apply Qm | apply Qo | apply Qp | apply Qw | apply Qv | apply Qu | apply Qt | apply Qs | apply Qr | apply Qq | apply Qx | apply wrapS | apply Qy | (with_reducible exact lenNil) | apply Eq.refl)) | ((with_reducible first | apply Y1 | apply Y2 | apply Y3 | show blkEq _ _ _); conv => whnf))
    all_goals try simp only [Int.toNat_natCast] at *
    all_goals first
      | omega
      | (rw [hI, hs (by omega), if_pos (by assumption)])
      | (rw [hI, hs (by omega), if_pos (show (!_) = true by first | (rw [h]; rfl) | assumption)])
      | (rw [hI, hs (by omega), if_neg (by assumption)])
      | (rw [hI, hs (by omega), if_neg (show ¬ (!_) = true by first | (rw [h]; exact Bool.noConfusion) | assumption)])
      | (rw [hI, hs (by omega), h]; rfl)
      | (rw [hI, List.drop_eq_nil_of_le (by omega)]; rfl)
      | trace_state
def sInsCont : FSpec := lentSpec 3 (List Ins × List Ins) (fun (b, c) => [.c (codeS b), .c (.fn 85 [.ptr 0 0])]) (fun (b, c) => mayB c) (fun (b, c) => b.length ≤ 1000000)
  (fun (b, c) => .b (b.any (fun i => !insR c.length i))) fun (b, c) => mayB c
def A3' : List (Nat × FSpec) := (125, sInsIdx) :: A3
theorem A3'_ok : GOK Tryz.prog (tab A3') := gok_cons InsIdx_ok A3_ok
set_option maxHeartbeats 4000000 in
set_option maxRecDepth 100000 in
theorem InsCont_ok : Meets Tryz.prog 84 sInsCont := by
  refine meets_lent 3 A3'_ok rfl [] (fn := Tryz.f84) rfl rfl rfl (by decide) (fun _ => rfl) (fun _ => rfl) (by decide) fun ⟨b, c⟩ hb => ?_
  have hb : b.length ≤ 1000000 := hb
  have hi := idxW_any (fun i => !insR c.length i) b 0
  repeat' (first | exact @id (emp _ = true) | (intro h; first | exact Bool.noConfusion h | (simp only [Qn] at h) | skip) | ((conv => whnf) <;> (first | exact trivial | apply Qa | apply And.intro | apply Qb | apply Qc | apply Qd | apply Qe | apply Qf | apply Qg | apply Qh | apply Qi | exact QA | exact QP | refine QG ?_ | apply Qj | apply Qk | apply Ql | apply Qm | apply Qo | apply Qp | apply Qw | apply Qv | apply Qu | apply Qt | apply Qs | apply Qr | apply Qq | apply Qx | apply wrapS | apply Qy | (with_reducible exact lenNil) | apply Eq.refl)) | ((with_reducible first | apply Y1 | apply Y2 | apply Y3 | show blkEq _ _ _); conv => whnf))
  all_goals first
    | exact hb
    | exact hb
    | exact hi.symm

    | trace_state
def A4 : List (Nat × FSpec) := (84, sInsCont) :: A3'
theorem A4_ok : GOK Tryz.prog (tab A4) := gok_cons InsCont_ok A3'_ok
theorem codeR_long {c : List Ins} (h : ¬ (c.length : Int) ≤ 1000) : codeR c = false := by
  unfold codeR; rw [decide_eq_false (by omega)]; rfl
theorem codeR_any {c : List Ins} (h : (c.length : Int) ≤ 1000) : codeR c = !(c.any fun i => !insR c.length i) := by
  unfold codeR
  rw [decide_eq_true (by omega), Bool.true_and, List.any_eq_not_all_not]
  simp
def sCodeR : FSpec := spec (List Ins) (fun c => [.c (codeS c)]) (fun _ => True) fun c => .b (codeR c)
set_option maxHeartbeats 4000000 in
set_option maxRecDepth 100000 in
theorem codeR_ok : Meets Tryz.prog 37 sCodeR := by
  refine meets_plain A4_ok rfl [] (fn := Tryz.f37) rfl rfl rfl (by decide) fun c _ => ?_
  repeat' (first | exact @id (emp _ = true) | (intro h; first | exact Bool.noConfusion h | (simp only [Qn] at h) | skip) | ((conv => whnf) <;> (first | exact trivial | apply Qa | apply And.intro | apply Qb | apply Qc | apply Qd | apply Qe | apply Qf | apply Qg | apply Qh | apply Qi | exact QA | exact QP | refine QG ?_ | apply Qj | apply Qk | apply Ql | apply Qm | apply Qo | apply Qp | apply Qw | apply Qv | apply Qu | apply Qt | apply Qs | apply Qr | apply Qq | apply Qx | apply wrapS | apply Qy | (with_reducible exact lenNil) | apply Eq.refl)) | ((with_reducible first | apply Y1 | apply Y2 | apply Y3 | show blkEq _ _ _); conv => whnf))
  all_goals first
    | exact (show c.length ≤ 1000000 by omega)
    | exact codeR_any (by assumption)
    | exact codeR_long (by assumption)
    | trace_state
end Go.Eng
