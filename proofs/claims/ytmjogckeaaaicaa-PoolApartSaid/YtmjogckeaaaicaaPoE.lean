/- A pool: the reference's functions. -/
import Derived.Test.YtmjogckeaaaicaaPoD
set_option linter.unusedVariables false
set_option linter.unusedSimpArgs false
namespace Go.Eng
open Go Go.Proofs

def sRSizes : FSpec := spec (Int × Int × Int) (fun (s, b, m) => [.i s, .i b, .i m]) (fun _ => True) fun (s, b, m) => .b (sizeP s b m)
set_option maxHeartbeats 4000000 in
set_option maxRecDepth 100000 in
theorem rsizes_ok : Meets Try.prog 29 sRSizes := by
  refine meets_plain (gok_nil _) rfl [] (fn := Try.f29) rfl rfl rfl (by decide) fun ⟨s, b, m⟩ _ => ?_
  have hw : 1 ≤ s ∧ s ≤ 8 → 0 ≤ m ∧ m ≤ 16 → 1 ≤ b ∧ b ≤ 160 → IntKind.i64.wrap (b + IntKind.i64.wrap (s * m)) = b + s * m := fun h1 h2 h3 => by
    have := prod_le h1 h2
    rw [wrap_i64 (x := s * m) (by omega), wrap_i64 (by omega)]
  repeat' (first | (intro h; first | exact Bool.noConfusion h | (guard_hyp h : true = true; clear h) | (guard_hyp h : false = false; clear h) | (simp only [decide_eq_true_eq, decide_eq_false_iff_not, beq_iff_eq, beq_eq_false_iff_ne, bne_iff_ne, bne_eq_false_iff_eq, Bool.not_eq_true', Bool.not_eq_false', ne_eq, Classical.not_not, Bool.not_true, Bool.not_false, beqL_iff, beqL_ff, List.cons.injEq, and_true] at h) | skip) | ((conv => whnf) <;> (first | exact True.intro | apply br_rec | apply And.intro | apply EntP.k0 | apply EntP.k1 | apply EntP.k2 | apply EntP.k3 | apply EntP.k4 | apply EntP.k5 | apply EntP.k6 | apply DrawP.go | (apply AnyP.mk; kernel_rfl) | (refine AggP.go 2 rfl (by kernel_rfl) ?_) | (refine AggP.go 1 rfl (by kernel_rfl) ?_) | (refine AggP.go 3 rfl (by kernel_rfl) ?_) | (refine AggP.go 4 rfl (by kernel_rfl) ?_) | (refine AggP.go 5 rfl (by kernel_rfl) ?_) | (refine AggP.go 8 rfl (by kernel_rfl) ?_) | (refine AggP.go 11 rfl (by kernel_rfl) ?_) | apply CallP.own0 | apply CallP.own1 | apply CallP.own2 | apply CallP.own3 | apply CallP.nb | apply CutE.go0 | apply CutE.go7 | apply CutE.go6 | apply CutE.go5 | apply CutE.go4 | apply CutE.go3 | apply CutE.go2 | apply CutE.go1 | apply RoP.id | apply wrapS | (with_reducible exact lenNil) | apply Eq.refl)) | ((first | (with_reducible show rvEq _ _ _ _) | (with_reducible show svEq _ _ _ _) | (with_reducible show cellEq _ _ _ _) | (with_reducible show blkEq _ _ _)); conv => whnf))
  all_goals first
    | (show sizeP s b m = false; apply decide_eq_false; rintro ⟨h1, h2, h3, h4, h5, h6, h7⟩; omega)
    | (show sizeP s b m = decide _
       rw [hw (by omega) (by omega) (by omega)]
       unfold sizeP
       congr 1
       apply propext
       exact ⟨fun h => h.2.2.2.2.2.2, fun h => ⟨by omega, by omega, by omega, by omega, by omega, by omega, h⟩⟩)
    | trace_state
def sHas : FSpec := spec (List Int × Int) (fun (l, v) => [.c (intsS l), .i v]) (fun (l, _) => l.length ≤ 1000000) fun (l, v) => .b (l.contains v)
theorem has_iff {l : List Int} {v : Int} : l.contains v = true ↔ ∃ i, i < l.length ∧ l.getD i 0 = v := by
  rw [List.contains_iff_mem, List.mem_iff_getElem]
  constructor
  · rintro ⟨i, hi, e⟩
    exact ⟨i, hi, by rw [List.getD_eq_getElem?_getD, List.getElem?_eq_getElem hi]; exact e⟩
  · rintro ⟨i, hi, e⟩
    rw [List.getD_eq_getElem?_getD, List.getElem?_eq_getElem hi] at e
    exact ⟨i, hi, e⟩
theorem has_no {l : List Int} {v : Int} {k : Nat} (hk : l.length ≤ k) (hu : Up k fun i => ¬ l.getD i 0 = v) : l.contains v = false := by
  cases h : l.contains v with
  | false => rfl
  | true =>
    obtain ⟨i, hi, e⟩ := has_iff.1 h
    exact absurd e (hu.get i (by omega))
set_option maxHeartbeats 4000000 in
set_option maxRecDepth 100000 in
theorem has_ok : Meets Try.prog 38 sHas := by
  refine meets_plain (gok_nil _) rfl [] (fn := Try.f38) rfl rfl rfl (by decide) fun ⟨b, v⟩ hb => ?_
  have hb : b.length ≤ 1000000 := hb
  repeat' (first | (intro h; first | exact Bool.noConfusion h | (guard_hyp h : true = true; clear h) | (guard_hyp h : false = false; clear h) | (simp only [decide_eq_true_eq, decide_eq_false_iff_not, beq_iff_eq, beq_eq_false_iff_ne, bne_iff_ne, bne_eq_false_iff_eq, Bool.not_eq_true', Bool.not_eq_false', ne_eq, Classical.not_not, Bool.not_true, Bool.not_false, beqL_iff, beqL_ff, List.cons.injEq, and_true] at h) | skip) | ((conv => whnf) <;> (first | exact True.intro | apply br_rec | apply And.intro | apply EntP.k0 | apply EntP.k1 | apply EntP.k2 | apply EntP.k3 | apply EntP.k4 | apply EntP.k5 | apply EntP.k6 | apply DrawP.go | (apply AnyP.mk; kernel_rfl) | (refine AggP.go 2 rfl (by kernel_rfl) ?_) | (refine AggP.go 1 rfl (by kernel_rfl) ?_) | (refine AggP.go 3 rfl (by kernel_rfl) ?_) | (refine AggP.go 4 rfl (by kernel_rfl) ?_) | (refine AggP.go 5 rfl (by kernel_rfl) ?_) | (refine AggP.go 8 rfl (by kernel_rfl) ?_) | (refine AggP.go 11 rfl (by kernel_rfl) ?_) | apply CallP.own0 | apply CallP.own1 | apply CallP.own2 | apply CallP.own3 | apply CallP.nb | apply CutE.go0 | apply CutE.go7 | apply CutE.go6 | apply CutE.go5 | apply CutE.go4 | apply CutE.go3 | apply CutE.go2 | apply CutE.go1 | apply RoP.id | apply wrapS | (with_reducible exact lenNil) | apply Eq.refl)) | ((first | (with_reducible show rvEq _ _ _ _) | (with_reducible show svEq _ _ _ _) | (with_reducible show cellEq _ _ _ _) | (with_reducible show blkEq _ _ _)); conv => whnf))
  apply LoopP.up (G := Nat) (fun k => k ≤ b.length ∧ Up k fun i => ¬ b.getD i 0 = v) [1, 7, 8, 9] (fun k => [(9, .i k)]) (fun _ => []) 0 (fun k => b.length - k)
  apply And.intro
  · refine CutE.at 0 ?_
    repeat' (first | (intro h; first | exact Bool.noConfusion h | (guard_hyp h : true = true; clear h) | (guard_hyp h : false = false; clear h) | (simp only [decide_eq_true_eq, decide_eq_false_iff_not, beq_iff_eq, beq_eq_false_iff_ne, bne_iff_ne, bne_eq_false_iff_eq, Bool.not_eq_true', Bool.not_eq_false', ne_eq, Classical.not_not, Bool.not_true, Bool.not_false, beqL_iff, beqL_ff, List.cons.injEq, and_true] at h) | skip) | ((conv => whnf) <;> (first | exact True.intro | apply br_rec | apply And.intro | apply EntP.k0 | apply EntP.k1 | apply EntP.k2 | apply EntP.k3 | apply EntP.k4 | apply EntP.k5 | apply EntP.k6 | apply DrawP.go | (apply AnyP.mk; kernel_rfl) | (refine AggP.go 2 rfl (by kernel_rfl) ?_) | (refine AggP.go 1 rfl (by kernel_rfl) ?_) | (refine AggP.go 3 rfl (by kernel_rfl) ?_) | (refine AggP.go 4 rfl (by kernel_rfl) ?_) | (refine AggP.go 5 rfl (by kernel_rfl) ?_) | (refine AggP.go 8 rfl (by kernel_rfl) ?_) | (refine AggP.go 11 rfl (by kernel_rfl) ?_) | apply CallP.own0 | apply CallP.own1 | apply CallP.own2 | apply CallP.own3 | apply CallP.nb | apply CutE.go0 | apply CutE.go7 | apply CutE.go6 | apply CutE.go5 | apply CutE.go4 | apply CutE.go3 | apply CutE.go2 | apply CutE.go1 | apply RoP.id | apply wrapS | (with_reducible exact lenNil) | apply Eq.refl)) | ((first | (with_reducible show rvEq _ _ _ _) | (with_reducible show svEq _ _ _ _) | (with_reducible show cellEq _ _ _ _) | (with_reducible show blkEq _ _ _)); conv => whnf))
    all_goals try simp only [Int.toNat_natCast, Int.toNat_zero, ge_iff_le, gt_iff_lt, Int.ofNat_le, Int.ofNat_lt, Int.ofNat_inj] at *
    all_goals first
      | omega
      | (dsimp only; omega)
      | assumption
      | exact Up.zero _
      | (show ((8 : Nat) : Int) * _ ≤ _; omega)
      | (show _ * (8 : Nat) ≤ _; omega)
      | (show _ * (16 : Nat) ≤ _; omega)
      | (show _ * (24 : Nat) ≤ _; omega)
      | trace_state
  · rintro k ⟨hk, hu⟩
    repeat' (first | (intro h; first | exact Bool.noConfusion h | (guard_hyp h : true = true; clear h) | (guard_hyp h : false = false; clear h) | (simp only [decide_eq_true_eq, decide_eq_false_iff_not, beq_iff_eq, beq_eq_false_iff_ne, bne_iff_ne, bne_eq_false_iff_eq, Bool.not_eq_true', Bool.not_eq_false', ne_eq, Classical.not_not, Bool.not_true, Bool.not_false, beqL_iff, beqL_ff, List.cons.injEq, and_true] at h) | skip) | ((conv => whnf) <;> (first | exact True.intro | apply br_rec | apply And.intro | refine CutE.at (A := Nat) (k + 1) ?_ | apply EntP.k0 | apply EntP.k1 | apply EntP.k2 | apply EntP.k3 | apply EntP.k4 | apply EntP.k5 | apply EntP.k6 | apply DrawP.go | (apply AnyP.mk; kernel_rfl) | (refine AggP.go 2 rfl (by kernel_rfl) ?_) | (refine AggP.go 1 rfl (by kernel_rfl) ?_) | (refine AggP.go 3 rfl (by kernel_rfl) ?_) | (refine AggP.go 4 rfl (by kernel_rfl) ?_) | (refine AggP.go 5 rfl (by kernel_rfl) ?_) | (refine AggP.go 8 rfl (by kernel_rfl) ?_) | (refine AggP.go 11 rfl (by kernel_rfl) ?_) | apply CallP.own0 | apply CallP.own1 | apply CallP.own2 | apply CallP.own3 | apply CallP.nb | apply CutE.go0 | apply CutE.go7 | apply CutE.go6 | apply CutE.go5 | apply CutE.go4 | apply CutE.go3 | apply CutE.go2 | apply CutE.go1 | apply RoP.id | apply wrapS | (with_reducible exact lenNil) | apply Eq.refl)) | ((first | (with_reducible show rvEq _ _ _ _) | (with_reducible show svEq _ _ _ _) | (with_reducible show cellEq _ _ _ _) | (with_reducible show blkEq _ _ _)); conv => whnf))
    all_goals try simp only [Int.toNat_natCast] at *
    all_goals first
      | omega
      | (show k + 1 ≤ b.length; omega)
      | (show b.length - (k + 1) < b.length - k; omega)
      | exact hu.succ (by assumption)
      | exact has_iff.2 ⟨k, by omega, by assumption⟩
      | exact has_no (by omega) hu
      | trace_state
theorem at_wrap {p : Pl} (hp : PlOk p) {k : Int} (hk : 0 ≤ k ∧ k ≤ 16) : IntKind.i64.wrap (p.2.1 + IntKind.i64.wrap (k * p.1)) = p.2.1 + k * p.1 := by
  have h := prod_le ⟨hp.s1, hp.s8⟩ hk
  have h1 := hp.b1
  have h2 := hp.b160
  rw [Int.mul_comm k, wrap_i64 (x := p.1 * k) (by omega), wrap_i64 (by omega)]
def sRFirst : FSpec := spec (Pl × Int) (fun (p, x) => [.agg (plC p), .i x]) (fun (p, _) => PlOk p) fun (p, x) => .b ((plB p).contains x)
set_option maxHeartbeats 4000000 in
set_option maxRecDepth 100000 in
theorem rfirst_ok : Meets Try.prog 52 sRFirst := by
  refine meets_plain (gok_nil _) rfl [] (fn := Try.f52) rfl rfl rfl (by decide) fun ⟨(s, b, m, l), x⟩ hp => ?_
  have hp : PlOk (s, b, m, l) := hp
  have hm : 0 ≤ m := hp.m0
  have hm' : m ≤ 16 := hp.m16
  repeat' (first | (intro h; first | exact Bool.noConfusion h | (guard_hyp h : true = true; clear h) | (guard_hyp h : false = false; clear h) | (simp only [decide_eq_true_eq, decide_eq_false_iff_not, beq_iff_eq, beq_eq_false_iff_ne, bne_iff_ne, bne_eq_false_iff_eq, Bool.not_eq_true', Bool.not_eq_false', ne_eq, Classical.not_not, Bool.not_true, Bool.not_false, beqL_iff, beqL_ff, List.cons.injEq, and_true] at h) | skip) | ((conv => whnf) <;> (first | exact True.intro | apply br_rec | apply And.intro | apply EntP.k0 | apply EntP.k1 | apply EntP.k2 | apply EntP.k3 | apply EntP.k4 | apply EntP.k5 | apply EntP.k6 | apply DrawP.go | (apply AnyP.mk; kernel_rfl) | (refine AggP.go 2 rfl (by kernel_rfl) ?_) | (refine AggP.go 1 rfl (by kernel_rfl) ?_) | (refine AggP.go 3 rfl (by kernel_rfl) ?_) | (refine AggP.go 4 rfl (by kernel_rfl) ?_) | (refine AggP.go 5 rfl (by kernel_rfl) ?_) | (refine AggP.go 8 rfl (by kernel_rfl) ?_) | (refine AggP.go 11 rfl (by kernel_rfl) ?_) | apply CallP.own0 | apply CallP.own1 | apply CallP.own2 | apply CallP.own3 | apply CallP.nb | apply CutE.go0 | apply CutE.go7 | apply CutE.go6 | apply CutE.go5 | apply CutE.go4 | apply CutE.go3 | apply CutE.go2 | apply CutE.go1 | apply RoP.id | apply wrapS | (with_reducible exact lenNil) | apply Eq.refl)) | ((first | (with_reducible show rvEq _ _ _ _) | (with_reducible show svEq _ _ _ _) | (with_reducible show cellEq _ _ _ _) | (with_reducible show blkEq _ _ _)); conv => whnf))
  apply LoopP.up (G := Nat) (fun k => k ≤ m.toNat ∧ Up k fun i => ¬ b + (i : Int) * s = x) [1, 2, 5] (fun k => [(5, .i k)]) (fun _ => []) 1 (fun k => m.toNat - k)
  apply And.intro
  · refine CutE.at 0 ?_
    repeat' (first | (intro h; first | exact Bool.noConfusion h | (guard_hyp h : true = true; clear h) | (guard_hyp h : false = false; clear h) | (simp only [decide_eq_true_eq, decide_eq_false_iff_not, beq_iff_eq, beq_eq_false_iff_ne, bne_iff_ne, bne_eq_false_iff_eq, Bool.not_eq_true', Bool.not_eq_false', ne_eq, Classical.not_not, Bool.not_true, Bool.not_false, beqL_iff, beqL_ff, List.cons.injEq, and_true] at h) | skip) | ((conv => whnf) <;> (first | exact True.intro | apply br_rec | apply And.intro | apply EntP.k0 | apply EntP.k1 | apply EntP.k2 | apply EntP.k3 | apply EntP.k4 | apply EntP.k5 | apply EntP.k6 | apply DrawP.go | (apply AnyP.mk; kernel_rfl) | (refine AggP.go 2 rfl (by kernel_rfl) ?_) | (refine AggP.go 1 rfl (by kernel_rfl) ?_) | (refine AggP.go 3 rfl (by kernel_rfl) ?_) | (refine AggP.go 4 rfl (by kernel_rfl) ?_) | (refine AggP.go 5 rfl (by kernel_rfl) ?_) | (refine AggP.go 8 rfl (by kernel_rfl) ?_) | (refine AggP.go 11 rfl (by kernel_rfl) ?_) | apply CallP.own0 | apply CallP.own1 | apply CallP.own2 | apply CallP.own3 | apply CallP.nb | apply CutE.go0 | apply CutE.go7 | apply CutE.go6 | apply CutE.go5 | apply CutE.go4 | apply CutE.go3 | apply CutE.go2 | apply CutE.go1 | apply RoP.id | apply wrapS | (with_reducible exact lenNil) | apply Eq.refl)) | ((first | (with_reducible show rvEq _ _ _ _) | (with_reducible show svEq _ _ _ _) | (with_reducible show cellEq _ _ _ _) | (with_reducible show blkEq _ _ _)); conv => whnf))
    all_goals first | omega | exact Up.zero _ | trace_state
  · rintro k ⟨hk, hu⟩
    have hw := at_wrap hp (k := k) (by omega)
    have hw : IntKind.i64.wrap (b + IntKind.i64.wrap ((k : Int) * s)) = b + (k : Int) * s := hw
    repeat' (first | (intro h; first | exact Bool.noConfusion h | (guard_hyp h : true = true; clear h) | (guard_hyp h : false = false; clear h) | (simp only [decide_eq_true_eq, decide_eq_false_iff_not, beq_iff_eq, beq_eq_false_iff_ne, bne_iff_ne, bne_eq_false_iff_eq, Bool.not_eq_true', Bool.not_eq_false', ne_eq, Classical.not_not, Bool.not_true, Bool.not_false, beqL_iff, beqL_ff, List.cons.injEq, and_true] at h) | skip) | ((conv => whnf) <;> (first | exact True.intro | apply br_rec | apply And.intro | refine CutE.at (A := Nat) (k + 1) ?_ | apply EntP.k0 | apply EntP.k1 | apply EntP.k2 | apply EntP.k3 | apply EntP.k4 | apply EntP.k5 | apply EntP.k6 | apply DrawP.go | (apply AnyP.mk; kernel_rfl) | (refine AggP.go 2 rfl (by kernel_rfl) ?_) | (refine AggP.go 1 rfl (by kernel_rfl) ?_) | (refine AggP.go 3 rfl (by kernel_rfl) ?_) | (refine AggP.go 4 rfl (by kernel_rfl) ?_) | (refine AggP.go 5 rfl (by kernel_rfl) ?_) | (refine AggP.go 8 rfl (by kernel_rfl) ?_) | (refine AggP.go 11 rfl (by kernel_rfl) ?_) | apply CallP.own0 | apply CallP.own1 | apply CallP.own2 | apply CallP.own3 | apply CallP.nb | apply CutE.go0 | apply CutE.go7 | apply CutE.go6 | apply CutE.go5 | apply CutE.go4 | apply CutE.go3 | apply CutE.go2 | apply CutE.go1 | apply RoP.id | apply wrapS | (with_reducible exact lenNil) | apply Eq.refl)) | ((first | (with_reducible show rvEq _ _ _ _) | (with_reducible show svEq _ _ _ _) | (with_reducible show cellEq _ _ _ _) | (with_reducible show blkEq _ _ _)); conv => whnf))
    all_goals try simp only [hw] at *
    all_goals first
      | omega
      | (show k + 1 ≤ m.toNat; omega)
      | (show m.toNat - (k + 1) < m.toNat - k; omega)
      | exact hu.succ (by assumption)
      | exact plB_mem.2 ⟨k, by show k < m.toNat; omega, by assumption⟩
      | (show (plB (s, b, m, l)).contains x = false
         cases h : (plB (s, b, m, l)).contains x with
         | false => rfl
         | true =>
           obtain ⟨i, hi, e⟩ := plB_mem.1 h
           have hi : i < m.toNat := hi
           exact absurd e (hu.get i (by omega)))
      | trace_state
def R1 : List (Nat × FSpec) := [(29, sRSizes), (38, sHas), (52, sRFirst)]
theorem R1_ok : GOK Try.prog (tab R1) := gok_cons rsizes_ok (gok_cons has_ok (gok_cons rfirst_ok (gok_nil _)))
set_option maxHeartbeats 4000000 in
set_option maxRecDepth 100000 in
theorem rright_ok : Meets Try.prog 27 sRight := by
  refine meets_plain R1_ok rfl [] (fn := Try.f27) rfl rfl rfl (by decide) fun ⟨s, b, m, l⟩ hl => ?_
  have hl : l.length ≤ 1000000 := hl
  repeat' (first | (intro h; first | exact Bool.noConfusion h | (guard_hyp h : true = true; clear h) | (guard_hyp h : false = false; clear h) | (simp only [decide_eq_true_eq, decide_eq_false_iff_not, beq_iff_eq, beq_eq_false_iff_ne, bne_iff_ne, bne_eq_false_iff_eq, Bool.not_eq_true', Bool.not_eq_false', ne_eq, Classical.not_not, Bool.not_true, Bool.not_false, beqL_iff, beqL_ff, List.cons.injEq, and_true] at h) | skip) | ((conv => whnf) <;> (first | exact True.intro | apply br_rec | apply And.intro | apply EntP.k0 | apply EntP.k1 | apply EntP.k2 | apply EntP.k3 | apply EntP.k4 | apply EntP.k5 | apply EntP.k6 | apply DrawP.go | (apply AnyP.mk; kernel_rfl) | (refine AggP.go 2 rfl (by kernel_rfl) ?_) | (refine AggP.go 1 rfl (by kernel_rfl) ?_) | (refine AggP.go 3 rfl (by kernel_rfl) ?_) | (refine AggP.go 4 rfl (by kernel_rfl) ?_) | (refine AggP.go 5 rfl (by kernel_rfl) ?_) | (refine AggP.go 8 rfl (by kernel_rfl) ?_) | (refine AggP.go 11 rfl (by kernel_rfl) ?_) | apply CallP.own0 | apply CallP.own1 | apply CallP.own2 | apply CallP.own3 | apply CallP.nb | apply CutE.go0 | apply CutE.go7 | apply CutE.go6 | apply CutE.go5 | apply CutE.go4 | apply CutE.go3 | apply CutE.go2 | apply CutE.go1 | apply RoP.id | apply wrapS | (with_reducible exact lenNil) | apply Eq.refl)) | ((first | (with_reducible show rvEq _ _ _ _) | (with_reducible show svEq _ _ _ _) | (with_reducible show cellEq _ _ _ _) | (with_reducible show blkEq _ _ _)); conv => whnf))
  · exact plR_size (by assumption)
  have hz : sizeP s b m = true := by assumption
  have hp := sizeP_ok hz l
  apply LoopP.up (G := Nat) (fun k => k ≤ l.length ∧ Up k fun i => okAt (s, b, m, l) i = true) [1, 14, 15, 16] (fun k => [(16, .i k)]) (fun _ => []) 1 (fun k => l.length - k)
  apply And.intro
  · refine CutE.at 0 ?_
    repeat' (first | (intro h; first | exact Bool.noConfusion h | (guard_hyp h : true = true; clear h) | (guard_hyp h : false = false; clear h) | (simp only [decide_eq_true_eq, decide_eq_false_iff_not, beq_iff_eq, beq_eq_false_iff_ne, bne_iff_ne, bne_eq_false_iff_eq, Bool.not_eq_true', Bool.not_eq_false', ne_eq, Classical.not_not, Bool.not_true, Bool.not_false, beqL_iff, beqL_ff, List.cons.injEq, and_true] at h) | skip) | ((conv => whnf) <;> (first | exact True.intro | apply br_rec | apply And.intro | apply EntP.k0 | apply EntP.k1 | apply EntP.k2 | apply EntP.k3 | apply EntP.k4 | apply EntP.k5 | apply EntP.k6 | apply DrawP.go | (apply AnyP.mk; kernel_rfl) | (refine AggP.go 2 rfl (by kernel_rfl) ?_) | (refine AggP.go 1 rfl (by kernel_rfl) ?_) | (refine AggP.go 3 rfl (by kernel_rfl) ?_) | (refine AggP.go 4 rfl (by kernel_rfl) ?_) | (refine AggP.go 5 rfl (by kernel_rfl) ?_) | (refine AggP.go 8 rfl (by kernel_rfl) ?_) | (refine AggP.go 11 rfl (by kernel_rfl) ?_) | apply CallP.own0 | apply CallP.own1 | apply CallP.own2 | apply CallP.own3 | apply CallP.nb | apply CutE.go0 | apply CutE.go7 | apply CutE.go6 | apply CutE.go5 | apply CutE.go4 | apply CutE.go3 | apply CutE.go2 | apply CutE.go1 | apply RoP.id | apply wrapS | (with_reducible exact lenNil) | apply Eq.refl)) | ((first | (with_reducible show rvEq _ _ _ _) | (with_reducible show svEq _ _ _ _) | (with_reducible show cellEq _ _ _ _) | (with_reducible show blkEq _ _ _)); conv => whnf))
    all_goals first | omega | exact Up.zero _ | trace_state
  rintro k ⟨hk, hu⟩
  repeat' (first | (intro h; first | exact Bool.noConfusion h | (guard_hyp h : true = true; clear h) | (guard_hyp h : false = false; clear h) | (simp only [decide_eq_true_eq, decide_eq_false_iff_not, beq_iff_eq, beq_eq_false_iff_ne, bne_iff_ne, bne_eq_false_iff_eq, Bool.not_eq_true', Bool.not_eq_false', ne_eq, Classical.not_not, Bool.not_true, Bool.not_false, beqL_iff, beqL_ff, List.cons.injEq, and_true] at h) | skip) | ((conv => whnf) <;> (first | exact True.intro | apply br_rec | apply And.intro | refine CutE.at (A := Nat) (k + 1) ?_ | refine CutE.at (A := Pl × Int) ((s, b, m, l), l.getD k 0) ?_ | refine CutE.at (A := List Int × Int) (l.take k, l.getD k 0) ?_ | apply EntP.k0 | apply EntP.k1 | apply EntP.k2 | apply EntP.k3 | apply EntP.k4 | apply EntP.k5 | apply EntP.k6 | apply DrawP.go | (apply AnyP.mk; kernel_rfl) | (refine AggP.go 2 rfl (by kernel_rfl) ?_) | (refine AggP.go 1 rfl (by kernel_rfl) ?_) | (refine AggP.go 3 rfl (by kernel_rfl) ?_) | (refine AggP.go 4 rfl (by kernel_rfl) ?_) | (refine AggP.go 5 rfl (by kernel_rfl) ?_) | (refine AggP.go 8 rfl (by kernel_rfl) ?_) | (refine AggP.go 11 rfl (by kernel_rfl) ?_) | apply CallP.own0 | apply CallP.own1 | apply CallP.own2 | apply CallP.own3 | apply CallP.nb | apply CutE.go0 | apply CutE.go7 | apply CutE.go6 | apply CutE.go5 | apply CutE.go4 | apply CutE.go3 | apply CutE.go2 | apply CutE.go1 | apply RoP.id | apply wrapS | (with_reducible exact lenNil) | apply Eq.refl)) | ((first | (with_reducible show rvEq _ _ _ _) | (with_reducible show svEq _ _ _ _) | (with_reducible show cellEq _ _ _ _) | (with_reducible show blkEq _ _ _)); conv => whnf))
  all_goals try simp only [Int.toNat_natCast] at *
  all_goals first
    | omega
    | exact hp
    | exact takeN_len (by omega)
    | exact takeN_at (by assumption)
    | (show (l.take k).length ≤ _; rw [List.length_take]; omega)
    | exact plR_no (i := k) (by show k < l.length; omega) (by rw [okAt, show (plB (s, b, m, l)).contains ((s, b, m, l).2.2.2.getD k 0) = false by assumption]; rfl)
    | exact plR_no (i := k) (by show k < l.length; omega) (by rw [okAt, show ((s, b, m, l).2.2.2.take k).contains ((s, b, m, l).2.2.2.getD k 0) = true by assumption, Bool.not_true, Bool.and_false])
    | (refine hu.succ ?_; rw [okAt, show (plB (s, b, m, l)).contains ((s, b, m, l).2.2.2.getD k 0) = true by assumption, show ((s, b, m, l).2.2.2.take k).contains ((s, b, m, l).2.2.2.getD k 0) = false by assumption]; rfl)
    | (show l.length - (k + 1) < l.length - k; omega)
    | (show k + 1 ≤ l.length; omega)
    | exact plR_iff.2 ⟨hz, fun i hi => hu.get i (by have this : i < l.length := hi; omega)⟩
    | trace_state
def sRNew : FSpec := spec (Int × Int × Int) (fun (s, b, m) => [.i s, .i b, .i m]) (fun (s, b, m) => sizeP s b m = true) fun (s, b, m) => .s (rPl (s, b, m, (plB (s, b, m, [])).reverse))
theorem plB_rev {p : Pl} {k : Nat} (h : k < p.2.2.1.toNat) : (plB p).reverse.getD k default = p.2.1 + (p.2.2.1 - 1 - k) * p.1 := by
  have e : (plB p).reverse.getD k default = (plB p).getD (p.2.2.1.toNat - 1 - k) default := by
    rw [List.getD_eq_getElem?_getD, List.getD_eq_getElem?_getD, List.getElem?_reverse (by rw [plB_len]; exact h), plB_len]
  rw [e, plB_get (by omega)]
  congr 2
  omega
set_option maxHeartbeats 4000000 in
set_option maxRecDepth 100000 in
theorem rnew_ok : Meets Try.prog 31 sRNew := by
  refine meets_plain (gok_nil _) rfl [] (fn := Try.f31) rfl rfl rfl (by decide) fun ⟨s, b, m⟩ hz => ?_
  have hp : PlOk (s, b, m, []) := sizeP_ok hz []
  have hm : 0 ≤ m := hp.m0
  have hm' : m ≤ 16 := hp.m16
  have hlen : (plB (s, b, m, [])).reverse.length = m.toNat := by rw [List.length_reverse, plB_len]
  have hw0 : IntKind.i64.wrap (m - 1) = m - 1 := wrap_i64 (by omega)
  repeat' (first | (intro h; first | exact Bool.noConfusion h | (guard_hyp h : true = true; clear h) | (guard_hyp h : false = false; clear h) | (simp only [decide_eq_true_eq, decide_eq_false_iff_not, beq_iff_eq, beq_eq_false_iff_ne, bne_iff_ne, bne_eq_false_iff_eq, Bool.not_eq_true', Bool.not_eq_false', ne_eq, Classical.not_not, Bool.not_true, Bool.not_false, beqL_iff, beqL_ff, List.cons.injEq, and_true] at h) | skip) | ((conv => whnf) <;> (first | exact True.intro | apply br_rec | apply And.intro | apply EntP.k0 | apply EntP.k1 | apply EntP.k2 | apply EntP.k3 | apply EntP.k4 | apply EntP.k5 | apply EntP.k6 | apply DrawP.go | (apply AnyP.mk; kernel_rfl) | (refine AggP.go 2 rfl (by kernel_rfl) ?_) | (refine AggP.go 1 rfl (by kernel_rfl) ?_) | (refine AggP.go 3 rfl (by kernel_rfl) ?_) | (refine AggP.go 4 rfl (by kernel_rfl) ?_) | (refine AggP.go 5 rfl (by kernel_rfl) ?_) | (refine AggP.go 8 rfl (by kernel_rfl) ?_) | (refine AggP.go 11 rfl (by kernel_rfl) ?_) | apply CallP.own0 | apply CallP.own1 | apply CallP.own2 | apply CallP.own3 | apply CallP.nb | apply CutE.go0 | apply CutE.go7 | apply CutE.go6 | apply CutE.go5 | apply CutE.go4 | apply CutE.go3 | apply CutE.go2 | apply CutE.go1 | apply RoP.id | apply wrapS | (with_reducible exact lenNil) | apply Eq.refl)) | ((first | (with_reducible show rvEq _ _ _ _) | (with_reducible show svEq _ _ _ _) | (with_reducible show cellEq _ _ _ _) | (with_reducible show blkEq _ _ _)); conv => whnf))
  apply LoopP.up (G := Nat) (fun k => k ≤ m.toNat) [0, 1, 6, 7, 8] (fun k => [(8, .i (m - 1 - k))]) (fun k => [(1, .row 48 [.i s, .i b, .i m, .osl 2]), (2, .slc 3 1 k (slG encI ((plB (s, b, m, [])).reverse.take k)))]) 3 (fun k => m.toNat - k)
  apply And.intro
  · refine CutE.at 0 ⟨EntP.at (n := 3) [⟨true, 1, 3, 3, 1⟩] [0, 1, 2] ?_, ?_⟩
    · repeat' (first | (intro h; first | exact Bool.noConfusion h | (guard_hyp h : true = true; clear h) | (guard_hyp h : false = false; clear h) | (simp only [decide_eq_true_eq, decide_eq_false_iff_not, beq_iff_eq, beq_eq_false_iff_ne, bne_iff_ne, bne_eq_false_iff_eq, Bool.not_eq_true', Bool.not_eq_false', ne_eq, Classical.not_not, Bool.not_true, Bool.not_false, beqL_iff, beqL_ff, List.cons.injEq, and_true] at h) | skip) | ((conv => whnf) <;> (first | exact True.intro | apply br_rec | apply And.intro | apply EntP.k0 | apply EntP.k1 | apply EntP.k2 | apply EntP.k3 | apply EntP.k4 | apply EntP.k5 | apply EntP.k6 | apply DrawP.go | (apply AnyP.mk; kernel_rfl) | (refine AggP.go 2 rfl (by kernel_rfl) ?_) | (refine AggP.go 1 rfl (by kernel_rfl) ?_) | (refine AggP.go 3 rfl (by kernel_rfl) ?_) | (refine AggP.go 4 rfl (by kernel_rfl) ?_) | (refine AggP.go 5 rfl (by kernel_rfl) ?_) | (refine AggP.go 8 rfl (by kernel_rfl) ?_) | (refine AggP.go 11 rfl (by kernel_rfl) ?_) | apply CallP.own0 | apply CallP.own1 | apply CallP.own2 | apply CallP.own3 | apply CallP.nb | apply CutE.go0 | apply CutE.go7 | apply CutE.go6 | apply CutE.go5 | apply CutE.go4 | apply CutE.go3 | apply CutE.go2 | apply CutE.go1 | apply RoP.id | apply wrapS | (with_reducible exact lenNil) | apply Eq.refl)) | ((first | (with_reducible show rvEq _ _ _ _) | (with_reducible show svEq _ _ _ _) | (with_reducible show cellEq _ _ _ _) | (with_reducible show blkEq _ _ _)); conv => whnf))
      all_goals first
        | (rename_i i hi t; exact absurd hi (Nat.not_lt_zero _))
        | (rw [hw0]; omega)
        | omega
        | trace_state
    · exact Nat.zero_le _
  · rintro k hk
    have hk : k ≤ m.toNat := hk
    have hw1 : IntKind.i64.wrap (m - 1 - k - 1) = m - 1 - (k + 1 : Nat) := by rw [wrap_i64 (by omega)]; omega
    have hw2 : 0 ≤ m - 1 - (k : Int) → IntKind.i64.wrap (b + IntKind.i64.wrap ((m - 1 - (k : Int)) * s)) = b + (m - 1 - (k : Int)) * s := fun h => at_wrap hp (k := m - 1 - k) (by omega)
    have hr : k < m.toNat → (plB (s, b, m, [])).reverse.getD k default = b + (m - 1 - k) * s := fun h => plB_rev (p := (s, b, m, [])) h
    repeat' (first | (intro h; first | exact Bool.noConfusion h | (guard_hyp h : true = true; clear h) | (guard_hyp h : false = false; clear h) | (simp only [decide_eq_true_eq, decide_eq_false_iff_not, beq_iff_eq, beq_eq_false_iff_ne, bne_iff_ne, bne_eq_false_iff_eq, Bool.not_eq_true', Bool.not_eq_false', ne_eq, Classical.not_not, Bool.not_true, Bool.not_false, beqL_iff, beqL_ff, List.cons.injEq, and_true] at h) | skip) | ((conv => whnf) <;> (first | exact True.intro | apply br_rec | apply And.intro | refine CutE.at (A := Nat) (k + 1) ?_ | apply EntP.k0 | apply EntP.k1 | apply EntP.k2 | apply EntP.k3 | apply EntP.k4 | apply EntP.k5 | apply EntP.k6 | apply DrawP.go | (apply AnyP.mk; kernel_rfl) | (refine AggP.go 2 rfl (by kernel_rfl) ?_) | (refine AggP.go 1 rfl (by kernel_rfl) ?_) | (refine AggP.go 3 rfl (by kernel_rfl) ?_) | (refine AggP.go 4 rfl (by kernel_rfl) ?_) | (refine AggP.go 5 rfl (by kernel_rfl) ?_) | (refine AggP.go 8 rfl (by kernel_rfl) ?_) | (refine AggP.go 11 rfl (by kernel_rfl) ?_) | apply CallP.own0 | apply CallP.own1 | apply CallP.own2 | apply CallP.own3 | apply CallP.nb | apply CutE.go0 | apply CutE.go7 | apply CutE.go6 | apply CutE.go5 | apply CutE.go4 | apply CutE.go3 | apply CutE.go2 | apply CutE.go1 | apply RoP.id | apply wrapS | (with_reducible exact lenNil) | apply Eq.refl)) | ((first | (with_reducible show rvEq _ _ _ _) | (with_reducible show svEq _ _ _ _) | (with_reducible show cellEq _ _ _ _) | (with_reducible show blkEq _ _ _)); conv => whnf))
    all_goals first
      | omega
      | exact hw1.symm
      | (show (k + 1) * 8 ≤ _; omega)
      | (show k + 1 ≤ m.toNat; omega)
      | (show m.toNat - (k + 1) < m.toNat - k; omega)
      | exact slG_take1 (L := (plB (s, b, m, [])).reverse) (by omega) rfl (by assumption) (by assumption) (by rw [hr (by omega), hw2 (by omega)]; rfl)
      | (show (plB (s, b, m, [])).reverse.length = k; omega)
      | (show slG encI (plB (s, b, m, [])).reverse _ _ = _; exact slG_all (by omega))
      | trace_state
end Go.Eng
