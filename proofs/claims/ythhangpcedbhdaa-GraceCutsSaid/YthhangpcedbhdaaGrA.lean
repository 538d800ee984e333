/- Grace: what is open of each thread. -/
import Derived.Test.YthhangpcedbhdaaHiA
set_option linter.unusedVariables false
set_option linter.unusedSimpArgs false
namespace Go.Eng
open Go Go.Proofs

/-- A stretch: its thread, and its places. -/
structure Sc where
  th : Int
  fr : Int
  to : Int
  deriving DecidableEq, Inhabited
def encSc (s : Sc) : List Cell := [.i s.th, .i s.fr, .i s.to]
abbrev scsS (l : List Sc) : Cell := slC 3 encSc l
def setM (f : Int → Option Int) (k v : Int) : Int → Option Int := fun a => if a = k then some v else f a
def sNewO : FSpec := lentSpec 0 Unit (fun _ => []) (fun _ => []) (fun _ => True) (fun _ => .c (.ptr 0 0)) fun _ => [.row 87 [.v (.slice none 0 0), .mp 1, .mp 2], .imap fun _ => none, .imap fun _ => none]
set_option maxHeartbeats 4000000 in
set_option maxRecDepth 100000 in
theorem newO_ok : Meets Try.prog 53 sNewO := by
  refine meets_lent 3 (gok_nil _) rfl [] (fn := Try.f53) rfl rfl rfl (by decide) (fun _ => rfl) (fun _ => rfl) (by decide) fun _ _ => ?_
  repeat' (first | (intro h; first | exact Bool.noConfusion h | (guard_hyp h : true = true; clear h) | (guard_hyp h : false = false; clear h) | (simp only [decide_eq_true_eq, decide_eq_false_iff_not, beq_iff_eq, beq_eq_false_iff_ne, bne_iff_ne, bne_eq_false_iff_eq, Bool.not_eq_true', Bool.not_eq_false', ne_eq, Classical.not_not, Bool.not_true, Bool.not_false, beqL_iff, beqL_ff, List.cons.injEq, and_true] at h) | skip) | ((conv => whnf) <;> (first | exact True.intro | apply br_rec | apply And.intro | apply EntP.k0 | apply EntP.k1 | apply EntP.k2 | apply EntP.k3 | apply EntP.k4 | apply EntP.k5 | apply EntP.k6 | apply DrawP.go | (apply AnyP.mk; kernel_rfl) | (refine AggP.go 2 rfl (by kernel_rfl) ?_) | (refine AggP.go 1 rfl (by kernel_rfl) ?_) | (refine AggP.go 3 rfl (by kernel_rfl) ?_) | (refine AggP.go 4 rfl (by kernel_rfl) ?_) | (refine AggP.go 5 rfl (by kernel_rfl) ?_) | (refine AggP.go 8 rfl (by kernel_rfl) ?_) | (refine AggP.go 11 rfl (by kernel_rfl) ?_) | apply CallP.own0 | apply CallP.own1 | apply CallP.own2 | apply CallP.own3 | apply CallP.nb | apply CutE.go0 | apply CutE.go7 | apply CutE.go6 | apply CutE.go5 | apply CutE.go4 | apply CutE.go3 | apply CutE.go2 | apply CutE.go1 | apply RoP.id | apply wrapS | (with_reducible exact lenNil) | apply Eq.refl)) | ((first | (with_reducible show rvEq _ _ _ _) | (with_reducible show svEq _ _ _ _) | (with_reducible show cellEq _ _ _ _) | (with_reducible show blkEq _ _ _)); conv => whnf))
  all_goals first | rfl | trace_state
/-- What is open: the stretches, how deep each thread is in, and which is its. -/
abbrev OpG := List Sc × (Int → Option Int) × (Int → Option Int)
def opBlks (g : OpG) : List Blk := [.row 87 [.osl 3, .mp 1, .mp 2], .imap g.2.1, .imap g.2.2, .slc 50 3 g.1.length (slG encSc g.1)]
def minW (d most : Int) : Int := if most < d + 1 then most else d + 1
def SmallO (g : OpG) : Prop := g.1.length ≤ 1000 ∧ ∀ a, 0 ≤ oD g.2.1 a ∧ oD g.2.1 a ≤ 1000
theorem slG_snocG {α : Type} [Inhabited α] {enc : α → List Cell} {l : List α} {x : α} {q i t : Nat} {cs : List Cell} (hq : cs.length = q) (hi : i < (l ++ [x]).length) (ht : t < q) (hc : cs = enc x) : slG enc (l ++ [x]) i t = catG l.length (slG enc l) (litG q cs) i t := by
  subst hc hq
  exact (slG_snoc rfl rfl i (by simpa using hi) t ht).symm
def sInA : FSpec := lentSpec 4 (OpG × Int × Int × Int × Int) (fun (_, k, th, at', most) => [.c (.ptr 0 0), .i k, .i th, .i at', .i most]) (fun (g, _) => opBlks g) (fun (g, k, _) => SmallO g ∧ oD g.2.1 k = 0) (fun _ => .tup [])
  fun (g, k, th, at', most) => [.row 87 [.osl 4, .mp 1, .mp 2], .imap (setM g.2.1 k (minW 0 most)), .imap (setM g.2.2 k g.1.length), .gone, .slc 50 3 (g.1 ++ [(⟨th, at', -1⟩ : Sc)]).length (slG encSc (g.1 ++ [(⟨th, at', -1⟩ : Sc)]))]
set_option maxHeartbeats 4000000 in
set_option maxRecDepth 100000 in
theorem inA_ok : Meets Try.prog 54 sInA := by
  refine meets_lent 5 (gok_nil _) rfl [] (fn := Try.f54) rfl rfl rfl (by decide) (fun _ => rfl) (fun _ => rfl) (by decide) fun ⟨⟨out, d, w⟩, k, th, at', most⟩ hh => ?_
  have hS : out.length ≤ 1000 := hh.1.1
  have h0 : oD d k = 0 := hh.2
  clear hh
  have hw : IntKind.i64.wrap (oD d k + 1) = 0 + 1 := by rw [h0]; rfl
  repeat' (first | (intro h; first | exact Bool.noConfusion h | (guard_hyp h : true = true; clear h) | (guard_hyp h : false = false; clear h) | (simp only [decide_eq_true_eq, decide_eq_false_iff_not, beq_iff_eq, beq_eq_false_iff_ne, bne_iff_ne, bne_eq_false_iff_eq, Bool.not_eq_true', Bool.not_eq_false', ne_eq, Classical.not_not, Bool.not_true, Bool.not_false, beqL_iff, beqL_ff, List.cons.injEq, and_true] at h) | skip) | ((conv => whnf) <;> (first | exact True.intro | apply br_rec | apply And.intro | apply EntP.k0 | apply EntP.k1 | apply EntP.k2 | apply EntP.k3 | apply EntP.k4 | apply EntP.k5 | apply EntP.k6 | apply DrawP.go | (apply AnyP.mk; kernel_rfl) | (refine AggP.go 2 rfl (by kernel_rfl) ?_) | (refine AggP.go 1 rfl (by kernel_rfl) ?_) | (refine AggP.go 3 rfl (by kernel_rfl) ?_) | (refine AggP.go 4 rfl (by kernel_rfl) ?_) | (refine AggP.go 5 rfl (by kernel_rfl) ?_) | (refine AggP.go 8 rfl (by kernel_rfl) ?_) | (refine AggP.go 11 rfl (by kernel_rfl) ?_) | apply CallP.own0 | apply CallP.own1 | apply CallP.own2 | apply CallP.own3 | apply CallP.nb | apply CutE.go0 | apply CutE.go7 | apply CutE.go6 | apply CutE.go5 | apply CutE.go4 | apply CutE.go3 | apply CutE.go2 | apply CutE.go1 | apply RoP.id | apply wrapS | (with_reducible exact lenNil) | apply Eq.refl)) | ((first | (with_reducible show rvEq _ _ _ _) | (with_reducible show svEq _ _ _ _) | (with_reducible show cellEq _ _ _ _) | (with_reducible show blkEq _ _ _)); conv => whnf))
  all_goals first
    | omega
    | (exfalso; exact absurd h0 (by assumption))
    | (show (out.length + 1) * 24 ≤ _; omega)
    | (show out.length + 1 ≤ _; omega)
    | (show setM d k (minW 0 most) _ = if _ then some (if most < IntKind.i64.wrap (oD d k + 1) then most else IntKind.i64.wrap (oD d k + 1)) else _; rw [hw]; rfl)
    | (show (out ++ [_]).length = out.length + 1; rw [List.length_append]; rfl)
    | exact slG_snocG rfl (by assumption) (by assumption) rfl
    | rfl
    | trace_state
def sInB : FSpec := lentSpec 4 (OpG × Int × Int × Int × Int) (fun (_, k, th, at', most) => [.c (.ptr 0 0), .i k, .i th, .i at', .i most]) (fun (g, _) => opBlks g) (fun (g, k, _) => SmallO g ∧ ¬ oD g.2.1 k = 0) (fun _ => .tup [])
  fun (g, k, th, at', most) => opBlks (g.1, setM g.2.1 k (minW (oD g.2.1 k) most), g.2.2)
set_option maxHeartbeats 4000000 in
set_option maxRecDepth 100000 in
theorem inB_ok : Meets Try.prog 54 sInB := by
  refine meets_lent 4 (gok_nil _) rfl [] (fn := Try.f54) rfl rfl rfl (by decide) (fun _ => rfl) (fun _ => rfl) (by decide) fun ⟨⟨out, d, w⟩, k, th, at', most⟩ hh => ?_
  have hS : out.length ≤ 1000 := hh.1.1
  have hd := hh.1.2 k
  have h0 : ¬ oD d k = 0 := hh.2
  have hd : 0 ≤ oD d k ∧ oD d k ≤ 1000 := hd
  clear hh
  have hw : IntKind.i64.wrap (oD d k + 1) = oD d k + 1 := wrap_i64 (by omega)
  repeat' (first | (intro h; first | exact Bool.noConfusion h | (guard_hyp h : true = true; clear h) | (guard_hyp h : false = false; clear h) | (simp only [decide_eq_true_eq, decide_eq_false_iff_not, beq_iff_eq, beq_eq_false_iff_ne, bne_iff_ne, bne_eq_false_iff_eq, Bool.not_eq_true', Bool.not_eq_false', ne_eq, Classical.not_not, Bool.not_true, Bool.not_false, beqL_iff, beqL_ff, List.cons.injEq, and_true] at h) | skip) | ((conv => whnf) <;> (first | exact True.intro | apply br_rec | apply And.intro | apply EntP.k0 | apply EntP.k1 | apply EntP.k2 | apply EntP.k3 | apply EntP.k4 | apply EntP.k5 | apply EntP.k6 | apply DrawP.go | (apply AnyP.mk; kernel_rfl) | (refine AggP.go 2 rfl (by kernel_rfl) ?_) | (refine AggP.go 1 rfl (by kernel_rfl) ?_) | (refine AggP.go 3 rfl (by kernel_rfl) ?_) | (refine AggP.go 4 rfl (by kernel_rfl) ?_) | (refine AggP.go 5 rfl (by kernel_rfl) ?_) | (refine AggP.go 8 rfl (by kernel_rfl) ?_) | (refine AggP.go 11 rfl (by kernel_rfl) ?_) | apply CallP.own0 | apply CallP.own1 | apply CallP.own2 | apply CallP.own3 | apply CallP.nb | apply CutE.go0 | apply CutE.go7 | apply CutE.go6 | apply CutE.go5 | apply CutE.go4 | apply CutE.go3 | apply CutE.go2 | apply CutE.go1 | apply RoP.id | apply wrapS | (with_reducible exact lenNil) | apply Eq.refl)) | ((first | (with_reducible show rvEq _ _ _ _) | (with_reducible show svEq _ _ _ _) | (with_reducible show cellEq _ _ _ _) | (with_reducible show blkEq _ _ _)); conv => whnf))
  all_goals first
    | omega
    | (exfalso; exact absurd (by assumption) h0)
    | (show setM d k (minW (oD d k) most) _ = if _ then some (if most < IntKind.i64.wrap (oD d k + 1) then most else IntKind.i64.wrap (oD d k + 1)) else _; rw [hw]; rfl)
    | rfl
    | trace_state
/-- Going out. -/
def outG (g : OpG) (k at' : Int) : OpG :=
  if oD g.2.1 k = 0 then g
  else if oD g.2.1 k = 1 then (g.1.set (oD g.2.2 k).toNat { g.1.getD (oD g.2.2 k).toNat default with to := at' }, setM g.2.1 k (oD g.2.1 k - 1), g.2.2)
  else (g.1, setM g.2.1 k (oD g.2.1 k - 1), g.2.2)
def sOut : FSpec := lentSpec 4 (OpG × Int × Int) (fun (_, k, at') => [.c (.ptr 0 0), .i k, .i at']) (fun (g, _) => opBlks g) (fun (g, k, _) => SmallO g ∧ (¬ oD g.2.1 k = 0 → 0 ≤ oD g.2.2 k ∧ oD g.2.2 k < g.1.length)) (fun _ => .tup [])
  fun (g, k, at') => opBlks (outG g k at')
theorem slG_to {L : List Sc} {i : Nat} {a : Int} (hi : i < L.length) {i' t : Nat} (h' : i' < L.length) (ht : t < 3) :
    upd2 (slG encSc L) i 2 [.i a] i' t = slG encSc (L.set i { L.getD i default with to := a }) i' t := by
  by_cases e : i' = i
  · subst e
    have e1 : (L.set i' { L.getD i' default with to := a }).getD i' default = { L.getD i' default with to := a } := by
      rw [List.getD_eq_getElem?_getD, List.getElem?_set_self h']; rfl
    have : t = 0 ∨ t = 1 ∨ t = 2 := by omega
    unfold slG
    rw [e1]
    rcases this with rfl | rfl | rfl <;> simp [upd2, encSc]
  · have e1 : (L.set i { L.getD i default with to := a }).getD i' default = L.getD i' default := by
      rw [List.getD_eq_getElem?_getD, List.getElem?_set_ne (Ne.symm e), ← List.getD_eq_getElem?_getD]
    unfold slG
    rw [e1]
    simp [upd2, e]
theorem outG_0 {g : OpG} {k at' : Int} (h : oD g.2.1 k = 0) : outG g k at' = g := by rw [outG, if_pos h]
theorem outG_1 {g : OpG} {k at' : Int} (h : ¬ oD g.2.1 k = 0) (h1 : oD g.2.1 k = 1) : outG g k at' = (g.1.set (oD g.2.2 k).toNat { g.1.getD (oD g.2.2 k).toNat default with to := at' }, setM g.2.1 k (oD g.2.1 k - 1), g.2.2) := by rw [outG, if_neg h, if_pos h1]
theorem outG_2 {g : OpG} {k at' : Int} (h : ¬ oD g.2.1 k = 0) (h1 : ¬ oD g.2.1 k = 1) : outG g k at' = (g.1, setM g.2.1 k (oD g.2.1 k - 1), g.2.2) := by rw [outG, if_neg h, if_neg h1]
theorem outG_len (g : OpG) (k at' : Int) : (outG g k at').1.length = g.1.length := by
  unfold outG
  split
  · rfl
  split
  · show (g.1.set _ _).length = _; rw [List.length_set]
  · rfl
set_option maxHeartbeats 4000000 in
set_option maxRecDepth 100000 in
theorem out_ok : Meets Try.prog 55 sOut := by
  refine meets_lent 4 (gok_nil _) rfl [] (fn := Try.f55) rfl rfl rfl (by decide) (fun _ => rfl) (fun _ => rfl) (by decide) fun ⟨⟨out, d, w⟩, k, at'⟩ hh => ?_
  have hS : out.length ≤ 1000 := hh.1.1
  have hd := hh.1.2 k
  have hi : ¬ oD d k = 0 → 0 ≤ oD w k ∧ oD w k < out.length := hh.2
  have hd : 0 ≤ oD d k ∧ oD d k ≤ 1000 := hd
  clear hh
  by_cases h0 : oD d k = 0
  · show bodyK Try.prog _ _ _ _ sOut ⟨((out, d, w), k, at')⟩
    have e1 : sOut.post ⟨((out, d, w), k, at')⟩ = numB 0 (opBlks (out, d, w)) := by show numB 0 (opBlks (outG (out, d, w) k at')) = _; rw [outG_0 (g := (out, d, w)) h0]
    unfold bodyK
    rw [e1]
    clear e1
    repeat' (first | (intro h; first | exact Bool.noConfusion h | (guard_hyp h : true = true; clear h) | (guard_hyp h : false = false; clear h) | (simp only [decide_eq_true_eq, decide_eq_false_iff_not, beq_iff_eq, beq_eq_false_iff_ne, bne_iff_ne, bne_eq_false_iff_eq, Bool.not_eq_true', Bool.not_eq_false', ne_eq, Classical.not_not, Bool.not_true, Bool.not_false, beqL_iff, beqL_ff, List.cons.injEq, and_true] at h) | skip) | ((conv => whnf) <;> (first | exact True.intro | apply br_rec | apply And.intro | apply EntP.k0 | apply EntP.k1 | apply EntP.k2 | apply EntP.k3 | apply EntP.k4 | apply EntP.k5 | apply EntP.k6 | apply DrawP.go | (apply AnyP.mk; kernel_rfl) | (refine AggP.go 2 rfl (by kernel_rfl) ?_) | (refine AggP.go 1 rfl (by kernel_rfl) ?_) | (refine AggP.go 3 rfl (by kernel_rfl) ?_) | (refine AggP.go 4 rfl (by kernel_rfl) ?_) | (refine AggP.go 5 rfl (by kernel_rfl) ?_) | (refine AggP.go 8 rfl (by kernel_rfl) ?_) | (refine AggP.go 11 rfl (by kernel_rfl) ?_) | apply CallP.own0 | apply CallP.own1 | apply CallP.own2 | apply CallP.own3 | apply CallP.nb | apply CutE.go0 | apply CutE.go7 | apply CutE.go6 | apply CutE.go5 | apply CutE.go4 | apply CutE.go3 | apply CutE.go2 | apply CutE.go1 | apply RoP.id | apply wrapS | (with_reducible exact lenNil) | apply Eq.refl)) | ((first | (with_reducible show rvEq _ _ _ _) | (with_reducible show svEq _ _ _ _) | (with_reducible show cellEq _ _ _ _) | (with_reducible show blkEq _ _ _)); conv => whnf))
    all_goals first
      | rfl
      | (exfalso; exact absurd h0 (by assumption))
      | trace_state
  have hi := hi h0
  have hw : IntKind.i64.wrap (oD d k - 1) = oD d k - 1 := wrap_i64 (by omega)
  have hq : (if True then some (IntKind.i64.wrap ((d k).getD 0 - 1)) else d k).getD 0 = oD d k - 1 := by rw [if_pos trivial]; exact hw
  by_cases h1 : oD d k = 1
  · show bodyK Try.prog _ _ _ _ sOut ⟨((out, d, w), k, at')⟩
    have e1 : sOut.post ⟨((out, d, w), k, at')⟩ = numB 0 (opBlks (out.set (oD w k).toNat { out.getD (oD w k).toNat default with to := at' }, setM d k (oD d k - 1), w)) := by show numB 0 (opBlks (outG (out, d, w) k at')) = _; rw [outG_1 (g := (out, d, w)) h0 h1]
    unfold bodyK
    rw [e1]
    clear e1
    repeat' (first | (intro h; first | exact Bool.noConfusion h | (guard_hyp h : true = true; clear h) | (guard_hyp h : false = false; clear h) | (simp only [decide_eq_true_eq, decide_eq_false_iff_not, beq_iff_eq, beq_eq_false_iff_ne, bne_iff_ne, bne_eq_false_iff_eq, Bool.not_eq_true', Bool.not_eq_false', ne_eq, Classical.not_not, Bool.not_true, Bool.not_false, beqL_iff, beqL_ff, List.cons.injEq, and_true] at h) | skip) | ((conv => whnf) <;> (first | exact True.intro | apply br_rec | apply And.intro | apply EntP.k0 | apply EntP.k1 | apply EntP.k2 | apply EntP.k3 | apply EntP.k4 | apply EntP.k5 | apply EntP.k6 | apply DrawP.go | (apply AnyP.mk; kernel_rfl) | (refine AggP.go 2 rfl (by kernel_rfl) ?_) | (refine AggP.go 1 rfl (by kernel_rfl) ?_) | (refine AggP.go 3 rfl (by kernel_rfl) ?_) | (refine AggP.go 4 rfl (by kernel_rfl) ?_) | (refine AggP.go 5 rfl (by kernel_rfl) ?_) | (refine AggP.go 8 rfl (by kernel_rfl) ?_) | (refine AggP.go 11 rfl (by kernel_rfl) ?_) | apply CallP.own0 | apply CallP.own1 | apply CallP.own2 | apply CallP.own3 | apply CallP.nb | apply CutE.go0 | apply CutE.go7 | apply CutE.go6 | apply CutE.go5 | apply CutE.go4 | apply CutE.go3 | apply CutE.go2 | apply CutE.go1 | apply RoP.id | apply wrapS | (with_reducible exact lenNil) | apply Eq.refl)) | ((first | (with_reducible show rvEq _ _ _ _) | (with_reducible show svEq _ _ _ _) | (with_reducible show cellEq _ _ _ _) | (with_reducible show blkEq _ _ _)); conv => whnf))
    all_goals first
      | exact hi.1
      | exact hi.2
      | (show (oD w k).toNat < out.length; omega)
      | (exfalso; exact h0 (by assumption))
      | (exfalso; omega)
      | (show setM d k (oD d k - 1) _ = if _ then some (IntKind.i64.wrap (oD d k - 1)) else _; rw [hw]; rfl)
      | exact List.length_set
      | exact (slG_to (by omega) (by simpa only [List.length_set] using (show _ < (out.set _ _).length by assumption)) (by assumption)).symm
      | rfl
      | trace_state
  · show bodyK Try.prog _ _ _ _ sOut ⟨((out, d, w), k, at')⟩
    have e1 : sOut.post ⟨((out, d, w), k, at')⟩ = numB 0 (opBlks (out, setM d k (oD d k - 1), w)) := by show numB 0 (opBlks (outG (out, d, w) k at')) = _; rw [outG_2 (g := (out, d, w)) h0 h1]
    unfold bodyK
    rw [e1]
    clear e1
    repeat' (first | (intro h; first | exact Bool.noConfusion h | (guard_hyp h : true = true; clear h) | (guard_hyp h : false = false; clear h) | (simp only [decide_eq_true_eq, decide_eq_false_iff_not, beq_iff_eq, beq_eq_false_iff_ne, bne_iff_ne, bne_eq_false_iff_eq, Bool.not_eq_true', Bool.not_eq_false', ne_eq, Classical.not_not, Bool.not_true, Bool.not_false, beqL_iff, beqL_ff, List.cons.injEq, and_true] at h) | skip) | ((conv => whnf) <;> (first | exact True.intro | apply br_rec | apply And.intro | apply EntP.k0 | apply EntP.k1 | apply EntP.k2 | apply EntP.k3 | apply EntP.k4 | apply EntP.k5 | apply EntP.k6 | apply DrawP.go | (apply AnyP.mk; kernel_rfl) | (refine AggP.go 2 rfl (by kernel_rfl) ?_) | (refine AggP.go 1 rfl (by kernel_rfl) ?_) | (refine AggP.go 3 rfl (by kernel_rfl) ?_) | (refine AggP.go 4 rfl (by kernel_rfl) ?_) | (refine AggP.go 5 rfl (by kernel_rfl) ?_) | (refine AggP.go 8 rfl (by kernel_rfl) ?_) | (refine AggP.go 11 rfl (by kernel_rfl) ?_) | apply CallP.own0 | apply CallP.own1 | apply CallP.own2 | apply CallP.own3 | apply CallP.nb | apply CutE.go0 | apply CutE.go7 | apply CutE.go6 | apply CutE.go5 | apply CutE.go4 | apply CutE.go3 | apply CutE.go2 | apply CutE.go1 | apply RoP.id | apply wrapS | (with_reducible exact lenNil) | apply Eq.refl)) | ((first | (with_reducible show rvEq _ _ _ _) | (with_reducible show svEq _ _ _ _) | (with_reducible show cellEq _ _ _ _) | (with_reducible show blkEq _ _ _)); conv => whnf))
    all_goals first
      | exact hi.1
      | exact hi.2
      | (show (oD w k).toNat < out.length; omega)
      | (exfalso; exact h0 (by assumption))
      | (exfalso; omega)
      | (show setM d k (oD d k - 1) _ = if _ then some (IntKind.i64.wrap (oD d k - 1)) else _; rw [hw]; rfl)
      | exact List.length_set
      | exact (slG_to (by omega) (by simpa only [List.length_set] using (show _ < (out.set _ _).length by assumption)) (by assumption)).symm
      | rfl
      | trace_state
end Go.Eng
