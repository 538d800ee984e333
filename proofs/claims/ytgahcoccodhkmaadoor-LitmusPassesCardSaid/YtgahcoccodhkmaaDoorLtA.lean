/- A part of the walks, and of the machine that proves them (LtA). -/
import Derived.Test.YtgahcoccodhkmaaDoorEngC
import Derived.Test.YtgahcoccodhkmaaDoorLtPm
import Derived.Test.YtgahcoccodhkmaaDoorProg
set_option linter.unusedVariables false
set_option linter.unusedSimpArgs false
namespace Go.Eng
open Go Go.Proofs
/-- A digit as a string. -/
def digS (n : Int) : ByteArray := ⟨#[dig n]⟩
def digitsS : ByteArray := ⟨#[48, 49, 50, 51, 52, 53, 54, 55, 56, 57, 97, 98, 99, 100, 101, 102, 103, 104, 105, 106, 107, 108, 109, 110, 111, 112, 113, 114, 115, 116, 117, 118, 119, 120, 121, 122]⟩
def encU (b : UInt8) : List Cell := [.v (.int .u8 ((b.toNat : Nat) : Int))]
theorem strLen_digS (n : Int) : strLen (digS n) = 1 := by unfold strLen; rfl
theorem strG_digS (n : Int) (i t : Nat) (h : i < 1) (h' : t < 1) : strG (digS n) i t = slG encU [dig n] i t := by
  obtain rfl : i = 0 := by omega
  obtain rfl : t = 0 := by omega
  rfl
theorem cat_digS {l : List UInt8} {k : Nat} (hk : k = l.length) (n : Int) (i : Nat) (hi : i < k + 1) (t : Nat) (ht : t < 1) : catG k (slG encU l) (strG (digS n)) i t = slG encU (l ++ [dig n]) i t := by
  subst hk
  rw [← slG_append]
  unfold catG
  split
  · rfl
  · exact strG_digS n _ t (by omega) ht
def sSmall : FSpec := spec Int (fun n => [.i n]) (fun n => 0 ≤ n ∧ n ≤ 9) fun n => .c (.v (.string (digS n)))
theorem digits_cut {n : Int} (h : 0 ≤ n ∧ n ≤ 9) : strCut digitsS n (n + 1) = digS n := by
  obtain ⟨k, rfl⟩ : ∃ k : Nat, n = k := ⟨n.toNat, by omega⟩
  have hk : k ≤ 9 := by omega
  have key : ∀ j : Fin 10, (digitsS.extract j.1 (j.1 + 1)).data.toList = (digS (j.1 : Int)).data.toList := by decide +kernel
  have h1 := key ⟨k, by omega⟩
  unfold strCut
  have e : (((k : Int) + 1).toNat) = k + 1 := by omega
  rw [e, Int.toNat_natCast]
  generalize digitsS.extract k (k + 1) = x at *
  generalize digS (k : Int) = y at *
  cases x; cases y
  simp only at h1
  congr 1
  exact Array.toList_inj.1 h1
theorem digits_len : strLen digitsS = 36 := by unfold strLen; decide +kernel
set_option maxHeartbeats 4000000 in
set_option maxRecDepth 100000 in
theorem small_ok : Meets Tryd.prog 87 sSmall := by
  refine meets_plain (gok_nil _) rfl [] (fn := Tryd.f87) rfl rfl rfl (by decide) fun n hn => ?_
  repeat' (first | exact @id (emp _ = true) | (intro h; first | exact Bool.noConfusion h | (simp only [Qn] at h) | skip) | ((conv => whnf) <;> (first | exact trivial | apply Qa | apply And.intro | apply Qb | apply Qc | apply Qd | apply Qe | apply Qf | apply Qg | apply Qh | apply Qi | exact QA | exact QP | refine QG ?_ | apply Qj | apply Qk | apply Ql | apply Qm | apply Qo | apply Qp | apply Qw | apply Qv | apply Qu | apply Qt | apply Qs | apply Qr | apply Qq | apply Qx | apply wrapS | apply Qy | (with_reducible exact lenNil) | apply Eq.refl)) | ((with_reducible first | apply Y1 | apply Y2 | apply Y3 | show blkEq _ _ _); conv => whnf))
  all_goals first
    | omega
    | (rw [wrap_i64 ⟨by omega, by omega⟩]; omega)
    | (rw [wrap_i64 ⟨by omega, by omega⟩]; show n + 1 ≤ ((strLen digitsS : Nat) : Int); rw [digits_len]; omega)
    | (rw [wrap_i64 ⟨by omega, by omega⟩]; exact congrArg Value.string (digits_cut hn).symm)
    | trace_state
/-- A digit more. -/
def sAppU : FSpec := lentSpec 1 (List UInt8 × Int) (fun (_, n) => [.c (.osl 0), .c (.v (.int .u64 n)), .i 10]) (fun (l, _) => [.slc 5 1 l.length (slG encU l)]) (fun (l, n) => (0 ≤ n ∧ n ≤ 9) ∧ l.length ≤ 1000000)
  (fun _ => .c (.osl 1)) fun (l, n) => [.gone, .slc 5 1 (l.length + 1) (slG encU (l ++ [dig n]))]
def L1 : List (Nat × FSpec) := [(87, sSmall)]
theorem L1_ok : GOK Tryd.prog (tab L1) := gok_cons small_ok (gok_nil _)
set_option maxHeartbeats 4000000 in
set_option maxRecDepth 100000 in
theorem appU_ok : Meets Tryd.prog 75 sAppU := by
  refine meets_lent 2 L1_ok rfl [] (fn := Tryd.f75) rfl rfl rfl (by decide) (fun _ => rfl) (fun _ => rfl) (by decide) fun ⟨l, n⟩ ⟨hn, hl⟩ => ?_
  repeat' (first | exact @id (emp _ = true) | (intro h; first | exact Bool.noConfusion h | (simp only [Qn] at h) | skip) | ((conv => whnf) <;> (first | exact trivial | apply Qa | apply And.intro | apply Qb | apply Qc | apply Qd | apply Qe | apply Qf | apply Qg | apply Qh | apply Qi | exact QA | exact QP | refine QG ?_ | apply Qj | apply Qk | apply Ql | apply Qm | apply Qo | apply Qp | apply Qw | apply Qv | apply Qu | apply Qt | apply Qs | apply Qr | apply Qq | apply Qx | apply wrapS | apply Qy | (with_reducible exact lenNil) | apply Eq.refl)) | ((with_reducible first | apply Y1 | apply Y2 | apply Y3 | show blkEq _ _ _); conv => whnf))
  all_goals first
    | omega
    | (rw [wrap_i64 ⟨by omega, by omega⟩]; omega)
    | (rw [strLen_digS]; done)
    | (rw [strLen_digS]; omega)
    | (rw [wrap_i64 ⟨by omega, by omega⟩]; exact (cat_digS rfl n _ (by assumption) _ (by assumption)).symm)
    | trace_state
def sAppI : FSpec := lentSpec 1 (List UInt8 × Int) (fun (_, n) => [.c (.osl 0), .i n, .i 10]) (fun (l, _) => [.slc 5 1 l.length (slG encU l)]) (fun (l, n) => (0 ≤ n ∧ n ≤ 9) ∧ l.length ≤ 1000000)
  (fun _ => .c (.osl 1)) fun (l, n) => [.gone, .slc 5 1 (l.length + 1) (slG encU (l ++ [dig n]))]
def L2 : List (Nat × FSpec) := (75, sAppU) :: L1
theorem L2_ok : GOK Tryd.prog (tab L2) := gok_cons appU_ok L1_ok
theorem wrap_u64 {n : Int} (h : 0 ≤ n ∧ n ≤ 9) : IntKind.u64.wrap n = n := by
  obtain ⟨k, rfl⟩ : ∃ k : Nat, n = k := ⟨n.toNat, by omega⟩
  have hk : k ≤ 9 := by omega
  have key : ∀ j : Fin 10, IntKind.u64.wrap (j.1 : Int) = (j.1 : Int) := by decide +kernel
  exact key ⟨k, by omega⟩
set_option maxHeartbeats 4000000 in
set_option maxRecDepth 100000 in
theorem appI_ok : Meets Tryd.prog 54 sAppI := by
  refine meets_lent 2 L2_ok rfl [] (fn := Tryd.f54) rfl rfl rfl (by decide) (fun _ => rfl) (fun _ => rfl) (by decide) fun ⟨l, n⟩ ⟨hn, hl⟩ => ?_
  repeat' (first | exact @id (emp _ = true) | (intro h; first | exact Bool.noConfusion h | (simp only [Qn] at h) | skip) | ((conv => whnf) <;> (first | exact trivial | apply Qa | apply And.intro | apply Qb | apply Qc | apply Qd | apply Qe | apply Qf | apply Qg | apply Qh | apply Qi | exact QA | exact QP | refine QG ?_ | apply Qj | apply Qk | apply Ql | apply Qm | apply Qo | apply Qp | apply Qw | apply Qv | apply Qu | apply Qt | apply Qs | apply Qr | apply Qq | apply Qx | apply wrapS | apply Qy | (with_reducible exact lenNil) | apply Eq.refl)) | ((with_reducible first | apply Y1 | apply Y2 | apply Y3 | show blkEq _ _ _); conv => whnf))
  all_goals first
    | omega
    | (rw [wrap_u64 hn]; omega)
    | (rw [wrap_u64 hn]; done)
    | trace_state
def L3 : List (Nat × FSpec) := (54, sAppI) :: L2
theorem L3_ok : GOK Tryd.prog (tab L3) := gok_cons appI_ok L2_ok
set_option maxHeartbeats 4000000 in
set_option maxRecDepth 100000 in
theorem appJ_ok : Meets Tryd.prog 38 sAppI := by
  refine meets_lent 2 L3_ok rfl [] (fn := Tryd.f38) rfl rfl rfl (by decide) (fun _ => rfl) (fun _ => rfl) (by decide) fun ⟨l, n⟩ ⟨hn, hl⟩ => ?_
  repeat' (first | exact @id (emp _ = true) | (intro h; first | exact Bool.noConfusion h | (simp only [Qn] at h) | skip) | ((conv => whnf) <;> (first | exact trivial | apply Qa | apply And.intro | apply Qb | apply Qc | apply Qd | apply Qe | apply Qf | apply Qg | apply Qh | apply Qi | exact QA | exact QP | refine QG ?_ | apply Qj | apply Qk | apply Ql | apply Qm | apply Qo | apply Qp | apply Qw | apply Qv | apply Qu | apply Qt | apply Qs | apply Qr | apply Qq | apply Qx | apply wrapS | apply Qy | (with_reducible exact lenNil) | apply Eq.refl)) | ((with_reducible first | apply Y1 | apply Y2 | apply Y3 | show blkEq _ _ _); conv => whnf))
  all_goals first
    | omega
    | trace_state
end Go.Eng
namespace Go.Eng
open Go Go.Proofs
/-- As LoopP.up, but all blocks are told. -/
theorem LoopP.to {regs : List RV} {bs : List (Nat × Blk)} {nx : Nat} {p : (G : Type) → (G → Prop) → (G → St) → (G → Nat) → Prop} {G : Type} (I : G → Prop) (live : List Nat)
    (U : G → List (Nat × RV)) (B : G → List (Nat × Blk)) (nx' : Nat) (μ : G → Nat)
    (h : p G I (fun g => ⟨maskR live (U g) 0 regs, B g, nx'⟩) μ) : LoopP ⟨regs, bs, nx⟩ p := ⟨⟨G, I, _, μ, h⟩⟩
theorem CutP.to {regs : List RV} {bs : List (Nat × Blk)} {nx : Nat} {p : (G : Type) → (G → Prop) → (G → St) → Prop} {G : Type} (I : G → Prop) (live : List Nat)
    (U : G → List (Nat × RV)) (B : G → List (Nat × Blk)) (nx' : Nat)
    (h : p G I (fun g => ⟨maskR live (U g) 0 regs, B g, nx'⟩)) : CutP ⟨regs, bs, nx⟩ p := ⟨⟨G, I, _, h⟩⟩
def L4 : List (Nat × FSpec) := (38, sAppI) :: L3
theorem L4_ok : GOK Tryd.prog (tab L4) := gok_cons appJ_ok L3_ok
/-- A number and a blank more. -/
def sNum : FSpec := lentSpec 2 (List UInt8 × Int) (fun (_, n) => [.i n, .c (.ptr 0 0)]) (fun (l, _) => [.row 77 [.osl 1], .slc 5 1 l.length (slG encU l)]) (fun (l, n) => (0 ≤ n ∧ n ≤ 9) ∧ l.length ≤ 900000)
  (fun _ => .tup []) fun (l, n) => [.row 77 [.osl 2], .gone, .slc 5 1 (l.length + 2) (slG encU (l ++ num n))]
set_option maxHeartbeats 4000000 in
set_option maxRecDepth 100000 in
theorem num_ok : Meets Tryd.prog 37 sNum := by
  refine meets_lent 3 L4_ok rfl [] (fn := Tryd.f37) rfl rfl rfl (by decide) (fun _ => rfl) (fun _ => rfl) (by decide) fun ⟨l, n⟩ ⟨hn, hl⟩ => ?_
  repeat' (first | exact @id (emp _ = true) | (intro h; first | exact Bool.noConfusion h | (simp only [Qn] at h) | skip) | ((conv => whnf) <;> (first | exact trivial | apply Qa | apply And.intro | apply Qb | apply Qc | apply Qd | apply Qe | apply Qf | apply Qg | apply Qh | apply Qi | exact QA | exact QP | refine QG ?_ | apply Qj | apply Qk | apply Ql | apply Qm | apply Qo | apply Qp | apply Qw | apply Qv | apply Qu | apply Qt | apply Qs | apply Qr | apply Qq | apply Qx | apply wrapS | apply Qy | (with_reducible exact lenNil) | apply Eq.refl)) | ((with_reducible first | apply Y1 | apply Y2 | apply Y3 | show blkEq _ _ _); conv => whnf))
  all_goals first
    | omega
    | (show (l.length + 1 + 1) * 1 ≤ 140737488355328; omega)
    | (show slG encU (l ++ ([dig n] ++ [32])) _ _ = catG (l.length + 1) (slG encU (l ++ [dig n])) (litG 1 (encU 32)) _ _
       rw [← List.append_assoc]
       exact (slG_snoc (enc := encU) (by simp) rfl _ (by assumption) _ (by assumption)).symm)
    | trace_state
end Go.Eng
