/- A pool: whether it may be; made; blocks taken and given back. -/
import Derived.Test.YtmjogckeaaaicaaPoB
set_option linter.unusedVariables false
set_option linter.unusedSimpArgs false
namespace Go.Eng
open Go Go.Proofs

def okAt (p : Pl) (i : Nat) : Bool := (plB p).contains (p.2.2.2.getD i 0) && !(p.2.2.2.take i).contains (p.2.2.2.getD i 0)
/-- May a pool be? -/
def plR (p : Pl) : Bool := sizeP p.1 p.2.1 p.2.2.1 && (List.range p.2.2.2.length).all (okAt p)
theorem plR_iff {p : Pl} : plR p = true ↔ sizeP p.1 p.2.1 p.2.2.1 = true ∧ ∀ i, i < p.2.2.2.length → okAt p i = true := by
  simp only [plR, Bool.and_eq_true, List.all_eq_true, List.mem_range]
theorem plR_no {p : Pl} {i : Nat} (hi : i < p.2.2.2.length) (h : okAt p i = false) : plR p = false := by
  cases e : plR p with
  | false => rfl
  | true => rw [(plR_iff.1 e).2 i hi] at h; cases h
theorem plR_size {p : Pl} (h : sizeP p.1 p.2.1 p.2.2.1 = false) : plR p = false := by rw [plR, h]; rfl
theorem plR_ok {p : Pl} (h : plR p = true) : PlOk p := sizeP_ok (plR_iff.1 h).1 _
def SmallP (p : Pl) : Prop := p.2.2.2.length ≤ 1000000
def sRight : FSpec := spec Pl (fun p => [.agg (plC p)]) (fun p => SmallP p) fun p => .b (plR p)
def P3 : List (Nat × FSpec) := (46, sSizes) :: (50, sFirst) :: (47, sCollect) :: (49, sRev) :: (53, sClip) :: (54, sClone) :: (55, sWithout) :: P1
theorem P3_ok : GOK Try.prog (tab P3) := gok_cons sizes_ok (gok_cons first_ok (gok_cons collect_ok (gok_cons rev_ok (gok_cons clip_ok (gok_cons clone_ok (gok_cons without_ok P1_ok))))))
theorem takeN_len {l : List Int} {k : Nat} (h : k < l.length) : (l.take k).length = ((k : Int) - 0).toNat := by rw [List.length_take]; omega
theorem takeN_at {l : List Int} {k i t : Nat} (h : i < (l.take k).length) : slG encI (l.take k) i t = slG encI l (Int.toNat 0 + i) t := by
  have : i < k := by rw [List.length_take] at h; omega
  rw [slG_take _ _ _ _ this]
  show _ = slG encI l (0 + i) t
  rw [Nat.zero_add]
set_option maxHeartbeats 4000000 in
set_option maxRecDepth 100000 in
theorem right_ok : Meets Try.prog 26 sRight := by
  refine meets_plain P3_ok rfl [] (fn := Try.f26) rfl rfl rfl (by decide) fun ⟨s, b, m, l⟩ hl => ?_
  have hl : l.length ≤ 1000000 := hl
  repeat' (first | (intro h; first | exact Bool.noConfusion h | (guard_hyp h : true = true; clear h) | (guard_hyp h : false = false; clear h) | (simp only [decide_eq_true_eq, decide_eq_false_iff_not, beq_iff_eq, beq_eq_false_iff_ne, bne_iff_ne, bne_eq_false_iff_eq, Bool.not_eq_true', Bool.not_eq_false', ne_eq, Classical.not_not, Bool.not_true, Bool.not_false, beqL_iff, beqL_ff, List.cons.injEq, and_true] at h) | skip) | ((conv => whnf) <;> (first | exact True.intro | apply br_rec | apply And.intro | apply CutE.goPl | apply EntP.k0 | apply EntP.k1 | apply EntP.k2 | apply EntP.k3 | apply EntP.k4 | apply EntP.k5 | apply EntP.k6 | apply DrawP.go | (apply AnyP.mk; kernel_rfl) | (refine AggP.go 2 rfl (by kernel_rfl) ?_) | (refine AggP.go 1 rfl (by kernel_rfl) ?_) | (refine AggP.go 3 rfl (by kernel_rfl) ?_) | (refine AggP.go 4 rfl (by kernel_rfl) ?_) | (refine AggP.go 5 rfl (by kernel_rfl) ?_) | (refine AggP.go 8 rfl (by kernel_rfl) ?_) | (refine AggP.go 11 rfl (by kernel_rfl) ?_) | apply CallP.own0 | apply CallP.own1 | apply CallP.own2 | apply CallP.own3 | apply CallP.nb | apply CutE.go0 | apply CutE.go7 | apply CutE.go6 | apply CutE.go5 | apply CutE.go4 | apply CutE.go3 | apply CutE.go2 | apply CutE.go1 | apply RoP.id | apply wrapS | (with_reducible exact lenNil) | apply Eq.refl)) | ((first | (with_reducible show rvEq _ _ _ _) | (with_reducible show svEq _ _ _ _) | (with_reducible show cellEq _ _ _ _) | (with_reducible show blkEq _ _ _)); conv => whnf))
  · exact plR_size (by assumption)
  have hz : sizeP s b m = true := by assumption
  have hp := sizeP_ok hz l
  apply LoopP.up (G := Nat) (fun k => k ≤ l.length ∧ Up k fun i => okAt (s, b, m, l) i = true) [1, 9, 10, 11] (fun k => [(11, .i k)]) (fun _ => []) 1 (fun k => l.length - k)
  apply And.intro
  · refine CutE.at 0 ?_
    repeat' (first | (intro h; first | exact Bool.noConfusion h | (guard_hyp h : true = true; clear h) | (guard_hyp h : false = false; clear h) | (simp only [decide_eq_true_eq, decide_eq_false_iff_not, beq_iff_eq, beq_eq_false_iff_ne, bne_iff_ne, bne_eq_false_iff_eq, Bool.not_eq_true', Bool.not_eq_false', ne_eq, Classical.not_not, Bool.not_true, Bool.not_false, beqL_iff, beqL_ff, List.cons.injEq, and_true] at h) | skip) | ((conv => whnf) <;> (first | exact True.intro | apply br_rec | apply And.intro | apply EntP.k0 | apply EntP.k1 | apply EntP.k2 | apply EntP.k3 | apply EntP.k4 | apply EntP.k5 | apply EntP.k6 | apply DrawP.go | (apply AnyP.mk; kernel_rfl) | (refine AggP.go 2 rfl (by kernel_rfl) ?_) | (refine AggP.go 1 rfl (by kernel_rfl) ?_) | (refine AggP.go 3 rfl (by kernel_rfl) ?_) | (refine AggP.go 4 rfl (by kernel_rfl) ?_) | (refine AggP.go 5 rfl (by kernel_rfl) ?_) | (refine AggP.go 8 rfl (by kernel_rfl) ?_) | (refine AggP.go 11 rfl (by kernel_rfl) ?_) | apply CallP.own0 | apply CallP.own1 | apply CallP.own2 | apply CallP.own3 | apply CallP.nb | apply CutE.go0 | apply CutE.go7 | apply CutE.go6 | apply CutE.go5 | apply CutE.go4 | apply CutE.go3 | apply CutE.go2 | apply CutE.go1 | apply RoP.id | apply wrapS | (with_reducible exact lenNil) | apply Eq.refl)) | ((first | (with_reducible show rvEq _ _ _ _) | (with_reducible show svEq _ _ _ _) | (with_reducible show cellEq _ _ _ _) | (with_reducible show blkEq _ _ _)); conv => whnf))
    all_goals first | omega | exact Up.zero _ | trace_state
  rintro k ⟨hk, hu⟩
  repeat' (first | (intro h; first | exact Bool.noConfusion h | (guard_hyp h : true = true; clear h) | (guard_hyp h : false = false; clear h) | (simp only [decide_eq_true_eq, decide_eq_false_iff_not, beq_iff_eq, beq_eq_false_iff_ne, bne_iff_ne, bne_eq_false_iff_eq, Bool.not_eq_true', Bool.not_eq_false', ne_eq, Classical.not_not, Bool.not_true, Bool.not_false, beqL_iff, beqL_ff, List.cons.injEq, and_true] at h) | skip) | ((conv => whnf) <;> (first | exact True.intro | apply br_rec | apply And.intro | refine CutE.at (A := Nat) (k + 1) ?_ | refine CutE.at (A := Pl × Int) ((s, b, m, l), l.getD k 0) ?_ | refine CutE.at (A := List Int × Int) (l.take k, l.getD k 0) ?_ | apply EntP.k0 | apply EntP.k1 | apply EntP.k2 | apply EntP.k3 | apply EntP.k4 | apply EntP.k5 | apply EntP.k6 | apply DrawP.go | (apply AnyP.mk; kernel_rfl) | (refine AggP.go 2 rfl (by kernel_rfl) ?_) | (refine AggP.go 1 rfl (by kernel_rfl) ?_) | (refine AggP.go 3 rfl (by kernel_rfl) ?_) | (refine AggP.go 4 rfl (by kernel_rfl) ?_) | (refine AggP.go 5 rfl (by kernel_rfl) ?_) | (refine AggP.go 8 rfl (by kernel_rfl) ?_) | (refine AggP.go 11 rfl (by kernel_rfl) ?_) | apply CallP.own0 | apply CallP.own1 | apply CallP.own2 | apply CallP.own3 | apply CallP.nb | apply CutE.go0 | apply CutE.go7 | apply CutE.go6 | apply CutE.go5 | apply CutE.go4 | apply CutE.go3 | apply CutE.go2 | apply CutE.go1 | apply RoP.id | apply wrapS | (with_reducible exact lenNil) | apply Eq.refl)) | ((first | (with_reducible show rvEq _ _ _ _) | (with_reducible show svEq _ _ _ _) | (with_reducible show cellEq _ _ _ _) | (with_reducible show blkEq _ _ _)); conv => whnf))
  all_goals try simp only [Int.toNat_natCast] at *
  all_goals first
    | omega
    | exact hp
    | exact takeN_len (by omega)
    | exact takeN_at (by assumption)
    | (show (l.take k).length ≤ _; rw [List.length_take]; omega)
    | exact plR_no (i := k) (by show k < l.length; omega) (by rw [okAt, show (plB (s, b, m, l)).contains ((s, b, m, l).2.2.2.getD k 0) = false by assumption]; rfl)
    | exact plR_no (i := k) (by show k < l.length; omega) (by rw [okAt, show ((s, b, m, l).2.2.2.take k).contains ((s, b, m, l).2.2.2.getD k 0) = true by assumption, Bool.not_true, Bool.and_false])
    | (refine hu.succ ?_; rw [okAt, show (plB (s, b, m, l)).contains ((s, b, m, l).2.2.2.getD k 0) = true by assumption, show ((s, b, m, l).2.2.2.take k).contains ((s, b, m, l).2.2.2.getD k 0) = false by assumption]; rfl)
    | (show l.length - (k + 1) < l.length - k; omega)
    | (show k + 1 ≤ l.length; omega)
    | exact plR_iff.2 ⟨hz, fun i hi => hu.get i (by have this : i < l.length := hi; omega)⟩
    | trace_state
def pl0 : Pl := (0, 0, 0, [])
def newP (s b m : Int) : Pl × Int := if sizeP s b m = true then ((s, b, m, (plB (s, b, m, [])).reverse), 0) else (pl0, 1)
def takeP (p : Pl) : Pl × Int × Int := if plR p = true then (if p.2.2.2.length = 0 then (pl0, 0, 14) else ((p.1, p.2.1, p.2.2.1, p.2.2.2.take (p.2.2.2.length - 1)), p.2.2.2.getD (p.2.2.2.length - 1) 0, 0)) else (pl0, 0, 1)
def giveP (p : Pl) (x : Int) : Pl × Int := if plR p = true then (if (plB p).contains x = true then (if p.2.2.2.contains x = true then (pl0, 5) else ((p.1, p.2.1, p.2.2.1, p.2.2.2 ++ [x]), 0)) else (pl0, 3)) else (pl0, 1)
def heldP (p : Pl) : List Int × Int := if plR p = true then (heldF p p.2.2.2, 0) else ([], 1)
def rPl (p : Pl) : Sv := .agg (plC p)
def sNew : FSpec := spec (Int × Int × Int) (fun (s, b, m) => [.i s, .i b, .i m]) (fun _ => True) fun (s, b, m) => .tup [rPl (newP s b m).1, .c (.i (newP s b m).2)]
def sTake : FSpec := spec Pl (fun p => [.agg (plC p)]) (fun p => SmallP p) fun p => .tup [rPl (takeP p).1, .c (.i (takeP p).2.1), .c (.i (takeP p).2.2)]
def sGive : FSpec := spec (Pl × Int) (fun (p, x) => [.agg (plC p), .i x]) (fun (p, _) => p.2.2.2.length ≤ 100000) fun (p, x) => .tup [rPl (giveP p x).1, .c (.i (giveP p x).2)]
def sHeld : FSpec := spec Pl (fun p => [.agg (plC p)]) (fun p => SmallP p) fun p => .tup [.c (intsS (heldP p).1), .c (.i (heldP p).2)]
def P4 : List (Nat × FSpec) := (26, sRight) :: P3
theorem P4_ok : GOK Try.prog (tab P4) := gok_cons right_ok P3_ok
set_option maxHeartbeats 4000000 in
set_option maxRecDepth 100000 in
theorem new_ok : Meets Try.prog 25 sNew := by
  refine meets_plain P3_ok rfl [] (fn := Try.f25) rfl rfl rfl (by decide) fun ⟨s, b, m⟩ _ => ?_
  by_cases hz : sizeP s b m = true
  · show bodyK Try.prog _ _ _ _ sNew (s, b, m)
    have e1 : sNew.res (s, b, m) = .tup [rPl (s, b, m, (plB (s, b, m, [])).reverse), .c (.i 0)] := by show RV.tup _ = _; rw [newP, if_pos hz]
    unfold bodyK
    rw [e1]
    clear e1
    have hp := sizeP_ok hz []
    have hlen : (plB (s, b, m, [])).length ≤ 1000 := by rw [plB_len]; have this : m ≤ 16 := hp.m16; show m.toNat ≤ 1000; omega
    repeat' (first | (intro h; first | exact Bool.noConfusion h | (guard_hyp h : true = true; clear h) | (guard_hyp h : false = false; clear h) | (simp only [decide_eq_true_eq, decide_eq_false_iff_not, beq_iff_eq, beq_eq_false_iff_ne, bne_iff_ne, bne_eq_false_iff_eq, Bool.not_eq_true', Bool.not_eq_false', ne_eq, Classical.not_not, Bool.not_true, Bool.not_false, beqL_iff, beqL_ff, List.cons.injEq, and_true] at h) | skip) | ((conv => whnf) <;> (first | exact True.intro | apply br_rec | apply And.intro | refine CutE.at (A := Pl) (s, b, m, []) ?_ | refine CutE.at (A := List Int) (plB (s, b, m, [])) ?_ | apply EntP.k0 | apply EntP.k1 | apply EntP.k2 | apply EntP.k3 | apply EntP.k4 | apply EntP.k5 | apply EntP.k6 | apply DrawP.go | (apply AnyP.mk; kernel_rfl) | (refine AggP.go 2 rfl (by kernel_rfl) ?_) | (refine AggP.go 1 rfl (by kernel_rfl) ?_) | (refine AggP.go 3 rfl (by kernel_rfl) ?_) | (refine AggP.go 4 rfl (by kernel_rfl) ?_) | (refine AggP.go 5 rfl (by kernel_rfl) ?_) | (refine AggP.go 8 rfl (by kernel_rfl) ?_) | (refine AggP.go 11 rfl (by kernel_rfl) ?_) | apply CallP.own0 | apply CallP.own1 | apply CallP.own2 | apply CallP.own3 | apply CallP.nb | apply CutE.go0 | apply CutE.go7 | apply CutE.go6 | apply CutE.go5 | apply CutE.go4 | apply CutE.go3 | apply CutE.go2 | apply CutE.go1 | apply RoP.id | apply wrapS | (with_reducible exact lenNil) | apply Eq.refl)) | ((first | (with_reducible show rvEq _ _ _ _) | (with_reducible show svEq _ _ _ _) | (with_reducible show cellEq _ _ _ _) | (with_reducible show blkEq _ _ _)); conv => whnf))
    all_goals first
      | exact hp
      | exact hlen
      | contradiction
      | (exfalso; exact Bool.noConfusion (hz.symm.trans (show sizeP s b m = false by assumption)))
      | exact List.length_reverse
      | trace_state
  · have hz : sizeP s b m = false := by simpa using hz
    show bodyK Try.prog _ _ _ _ sNew (s, b, m)
    have e1 : sNew.res (s, b, m) = .tup [rPl pl0, .c (.i 1)] := by show RV.tup _ = _; rw [newP, hz]; rfl
    unfold bodyK
    rw [e1]
    clear e1
    repeat' (first | (intro h; first | exact Bool.noConfusion h | (guard_hyp h : true = true; clear h) | (guard_hyp h : false = false; clear h) | (simp only [decide_eq_true_eq, decide_eq_false_iff_not, beq_iff_eq, beq_eq_false_iff_ne, bne_iff_ne, bne_eq_false_iff_eq, Bool.not_eq_true', Bool.not_eq_false', ne_eq, Classical.not_not, Bool.not_true, Bool.not_false, beqL_iff, beqL_ff, List.cons.injEq, and_true] at h) | skip) | ((conv => whnf) <;> (first | exact True.intro | apply br_rec | apply And.intro | refine CutE.at (A := Pl) (s, b, m, []) ?_ | refine CutE.at (A := List Int) (plB (s, b, m, [])) ?_ | apply EntP.k0 | apply EntP.k1 | apply EntP.k2 | apply EntP.k3 | apply EntP.k4 | apply EntP.k5 | apply EntP.k6 | apply DrawP.go | (apply AnyP.mk; kernel_rfl) | (refine AggP.go 2 rfl (by kernel_rfl) ?_) | (refine AggP.go 1 rfl (by kernel_rfl) ?_) | (refine AggP.go 3 rfl (by kernel_rfl) ?_) | (refine AggP.go 4 rfl (by kernel_rfl) ?_) | (refine AggP.go 5 rfl (by kernel_rfl) ?_) | (refine AggP.go 8 rfl (by kernel_rfl) ?_) | (refine AggP.go 11 rfl (by kernel_rfl) ?_) | apply CallP.own0 | apply CallP.own1 | apply CallP.own2 | apply CallP.own3 | apply CallP.nb | apply CutE.go0 | apply CutE.go7 | apply CutE.go6 | apply CutE.go5 | apply CutE.go4 | apply CutE.go3 | apply CutE.go2 | apply CutE.go1 | apply RoP.id | apply wrapS | (with_reducible exact lenNil) | apply Eq.refl)) | ((first | (with_reducible show rvEq _ _ _ _) | (with_reducible show svEq _ _ _ _) | (with_reducible show cellEq _ _ _ _) | (with_reducible show blkEq _ _ _)); conv => whnf))
    all_goals first
      | (exfalso; exact Bool.noConfusion (hz.symm.trans (show sizeP s b m = true by assumption)))
      | trace_state
end Go.Eng
