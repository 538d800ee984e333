/- The machine: what its functions do. -/
import Derived.Test.YtpcimaemigchiaaTsoA
set_option linter.unusedVariables false
set_option linter.unusedSimpArgs false
namespace Go.Eng
open Go Go.Proofs

def hasF (ws ts : List Int) (d : Int) (l : List (List Put)) (i : Int) : Bool := tsoR ws ts d l && decide (0 ≤ i ∧ i < l.length)
abbrev TsoI := List Int × List Int × Int × List (List Put) × Int
def sHas : FSpec := spec TsoI (fun (ws, ts, d, l, i) => [.agg (tsoC ws ts d l), .i i]) (fun (_, _, _, l, _) => Small l) fun (ws, ts, d, l, i) => .b (hasF ws ts d l i)
def T4 : List (Nat × FSpec) := (47, sTsoRight) :: (18, sPush) :: (19, sNewest) :: (20, sPop) :: T3
theorem T4_ok : GOK Try.prog (tab T4) := gok_cons tsoRight_ok (gok_cons push_ok (gok_cons newest_ok (gok_cons pop_ok T3_ok)))
set_option maxHeartbeats 4000000 in
set_option maxRecDepth 100000 in
theorem has_ok : Meets Try.prog 71 sHas := by
  refine meets_plain T4_ok rfl [] (fn := Try.f71) rfl rfl rfl (by decide) fun ⟨ws, ts, d, l, i⟩ hS => ?_
  repeat' (first | (intro h; first | exact Bool.noConfusion h | (guard_hyp h : true = true; clear h) | (guard_hyp h : false = false; clear h) | (simp only [decide_eq_true_eq, decide_eq_false_iff_not, beq_iff_eq, beq_eq_false_iff_ne, bne_iff_ne, bne_eq_false_iff_eq, Bool.not_eq_true', Bool.not_eq_false', ne_eq, Classical.not_not, Bool.not_true, Bool.not_false, beqL_iff, beqL_ff, List.cons.injEq, and_true] at h) | skip) | ((conv => whnf) <;> (first | exact True.intro | apply br_rec | apply And.intro | apply EntP.k0 | apply EntP.k1 | apply EntP.k2 | apply EntP.k3 | apply EntP.k4 | apply EntP.k5 | apply EntP.k6 | apply DrawP.go | (apply AnyP.mk; kernel_rfl) | (refine AggP.go 2 rfl (by kernel_rfl) ?_) | (refine AggP.go 1 rfl (by kernel_rfl) ?_) | (refine AggP.go 3 rfl (by kernel_rfl) ?_) | (refine AggP.go 4 rfl (by kernel_rfl) ?_) | (refine AggP.go 5 rfl (by kernel_rfl) ?_) | (refine AggP.go 8 rfl (by kernel_rfl) ?_) | (refine AggP.go 11 rfl (by kernel_rfl) ?_) | apply CallP.own0 | apply CallP.own1 | apply CallP.own2 | apply CallP.own3 | apply CallP.nb | apply CutE.go0 | apply CutE.go7 | apply CutE.go6 | apply CutE.go5 | apply CutE.go4 | apply CutE.go3 | apply CutE.go2 | apply CutE.go1 | apply RoP.id | apply wrapS | (with_reducible exact lenNil) | apply Eq.refl)) | ((first | (with_reducible show rvEq _ _ _ _) | (with_reducible show svEq _ _ _ _) | (with_reducible show cellEq _ _ _ _) | (with_reducible show blkEq _ _ _)); conv => whnf))
  all_goals first
    | exact hS.1
    | exact hS.2 _
    | (simp [hasF, *]; done)
    | (simp [hasF, *]; omega)
    | trace_state

def sCloneL : FSpec := lentSpec 0 (List (List Put)) (fun l => [.c (bufsS l)]) (fun _ => []) (fun l => l.length ≤ 1000000) (fun _ => .c (.osl 0)) fun l => [.slc 22 1 l.length (slG bufE l)]
set_option maxHeartbeats 2000000 in
set_option maxRecDepth 100000 in
theorem cloneL_ok : Meets Try.prog 78 sCloneL := by
  refine meets_lent 1 (gok_nil _) rfl [] (fn := Try.f78) rfl rfl rfl (by decide) (fun _ => rfl) (fun _ => rfl) (by decide) fun l hl => ?_
  repeat' (first | (intro h; first | exact Bool.noConfusion h | (guard_hyp h : true = true; clear h) | (guard_hyp h : false = false; clear h) | (simp only [decide_eq_true_eq, decide_eq_false_iff_not, beq_iff_eq, beq_eq_false_iff_ne, bne_iff_ne, bne_eq_false_iff_eq, Bool.not_eq_true', Bool.not_eq_false', ne_eq, Classical.not_not, Bool.not_true, Bool.not_false, beqL_iff, beqL_ff, List.cons.injEq, and_true] at h) | skip) | ((conv => whnf) <;> (first | exact True.intro | apply br_rec | apply And.intro | (refine EntP.at [⟨false, 0, 0, 22, 1⟩] [0] ?_; (conv => whnf); fail_if_success (show False)) | apply EntP.k0 | apply EntP.k1 | apply EntP.k2 | apply EntP.k3 | apply EntP.k4 | apply EntP.k5 | apply EntP.k6 | apply DrawP.go | (apply AnyP.mk; kernel_rfl) | (refine AggP.go 2 rfl (by kernel_rfl) ?_) | (refine AggP.go 1 rfl (by kernel_rfl) ?_) | (refine AggP.go 3 rfl (by kernel_rfl) ?_) | (refine AggP.go 4 rfl (by kernel_rfl) ?_) | (refine AggP.go 5 rfl (by kernel_rfl) ?_) | (refine AggP.go 8 rfl (by kernel_rfl) ?_) | (refine AggP.go 11 rfl (by kernel_rfl) ?_) | apply CallP.own0 | apply CallP.own1 | apply CallP.own2 | apply CallP.own3 | apply CallP.nb | apply CutE.go0 | apply CutE.go7 | apply CutE.go6 | apply CutE.go5 | apply CutE.go4 | apply CutE.go3 | apply CutE.go2 | apply CutE.go1 | apply RoP.id | apply wrapS | (with_reducible exact lenNil) | apply Eq.refl)) | ((first | (with_reducible show rvEq _ _ _ _) | (with_reducible show svEq _ _ _ _) | (with_reducible show cellEq _ _ _ _) | (with_reducible show blkEq _ _ _)); conv => whnf))
  all_goals have hl : l.length ≤ 1000000 := hl
  all_goals try simp only at *
  all_goals first
    | omega
    | (show (0 + l.length) * 24 ≤ _; omega)
    | trace_state

theorem slG_setE {α : Type} [Inhabited α] {enc : α → List Cell} {q : Nat} (henc : ∀ x, (enc x).length = q) {l : List α} {i : Nat} {x : α} (hi : i < l.length) : ∀ i', i' < l.length → ∀ t, t < q → upd2 (slG enc l) i 0 (enc x) i' t = slG enc (l.set i x) i' t := slG_set henc hi
def sWait : FSpec := lentSpec 1 (List Int × List Int × Int × List (List Put) × Int × List Put) (fun (_, _, _, _, i, b) => [.c (.ptr 0 0), .i i, .c (putsS b)]) (fun (ws, ts, d, l, _, _) => [.row 92 (tsoC ws ts d l)]) (fun (_, _, _, l, i, _) => 0 ≤ i ∧ i < l.length ∧ l.length ≤ 1000000) (fun _ => .tup [])
  fun (ws, ts, d, l, i, b) => [.row 92 [intsS ws, intsS ts, .i d, .osl 1], .slc 22 1 (l.set i.toNat b).length (slG bufE (l.set i.toNat b))]
def T5 : List (Nat × FSpec) := [(78, sCloneL)]
theorem T5_ok : GOK Try.prog (tab T5) := gok_cons cloneL_ok (gok_nil _)
set_option maxHeartbeats 4000000 in
set_option maxRecDepth 100000 in
theorem wait_ok : Meets Try.prog 72 sWait := by
  refine meets_lent 2 T5_ok rfl [] (fn := Try.f72) rfl rfl rfl (by decide) (fun _ => rfl) (fun _ => rfl) (by decide) fun ⟨ws, ts, d, l, i, b⟩ ⟨h0, h1, h2⟩ => ?_
  repeat' (first | (intro h; first | exact Bool.noConfusion h | (guard_hyp h : true = true; clear h) | (guard_hyp h : false = false; clear h) | (simp only [decide_eq_true_eq, decide_eq_false_iff_not, beq_iff_eq, beq_eq_false_iff_ne, bne_iff_ne, bne_eq_false_iff_eq, Bool.not_eq_true', Bool.not_eq_false', ne_eq, Classical.not_not, Bool.not_true, Bool.not_false, beqL_iff, beqL_ff, List.cons.injEq, and_true] at h) | skip) | ((conv => whnf) <;> (first | exact True.intro | apply br_rec | apply And.intro | apply EntP.k0 | apply EntP.k1 | apply EntP.k2 | apply EntP.k3 | apply EntP.k4 | apply EntP.k5 | apply EntP.k6 | apply DrawP.go | (apply AnyP.mk; kernel_rfl) | (refine AggP.go 2 rfl (by kernel_rfl) ?_) | (refine AggP.go 1 rfl (by kernel_rfl) ?_) | (refine AggP.go 3 rfl (by kernel_rfl) ?_) | (refine AggP.go 4 rfl (by kernel_rfl) ?_) | (refine AggP.go 5 rfl (by kernel_rfl) ?_) | (refine AggP.go 8 rfl (by kernel_rfl) ?_) | (refine AggP.go 11 rfl (by kernel_rfl) ?_) | apply CallP.own0 | apply CallP.own1 | apply CallP.own2 | apply CallP.own3 | apply CallP.nb | apply CutE.go0 | apply CutE.go7 | apply CutE.go6 | apply CutE.go5 | apply CutE.go4 | apply CutE.go3 | apply CutE.go2 | apply CutE.go1 | apply RoP.id | apply wrapS | (with_reducible exact lenNil) | apply Eq.refl)) | ((first | (with_reducible show rvEq _ _ _ _) | (with_reducible show svEq _ _ _ _) | (with_reducible show cellEq _ _ _ _) | (with_reducible show blkEq _ _ _)); conv => whnf))
  all_goals first
    | omega
    | (show i.toNat < l.length; omega)
    | (show l.length ≤ 1000000; omega)
    | (show (l.set i.toNat b).length = l.length; exact List.length_set)
    | (rename_i i' hi' t; exact (slG_set (enc := bufE) (k := 1) (fun _ => rfl) (by omega) i' (by rw [List.length_set] at hi'; exact hi') t h).symm)
    | trace_state

/-- What a thread sees. -/
def loadT (t : Tso) (i a : Int) : Int × Int :=
  if hasF t.1 t.2.1 t.2.2.1 t.2.2.2 i = true then
    (if (loadF t.1 t.2.1 a).2 = 0 then (if (newestF (t.2.2.2.getD i.toNat default) a).2 = true then (newestF (t.2.2.2.getD i.toNat default) a).1 else (loadF t.1 t.2.1 a).1, 0) else (0, (loadF t.1 t.2.1 a).2))
  else (0, 1)
def storeT (t : Tso) (i a v : Int) : Tso × Int :=
  if hasF t.1 t.2.1 t.2.2.1 t.2.2.2 i = true then
    (if (storeF t.1 t.2.1 a v).2 = 0 then
      (if t.2.2.1 = 0 then (((storeF t.1 t.2.1 a v).1.1, (storeF t.1 t.2.1 a v).1.2, t.2.2.1, t.2.2.2), 0)
        else if (pushF (t.2.2.2.getD i.toNat default) t.2.2.1 (a, v)).2 = 0 then ((t.1, t.2.1, t.2.2.1, t.2.2.2.set i.toNat (pushF (t.2.2.2.getD i.toNat default) t.2.2.1 (a, v)).1), 0) else (tso0, (pushF (t.2.2.2.getD i.toNat default) t.2.2.1 (a, v)).2))
      else (tso0, (storeF t.1 t.2.1 a v).2))
  else (tso0, 1)
def flushT (t : Tso) (i : Int) : Tso × Int :=
  if hasF t.1 t.2.1 t.2.2.1 t.2.2.2 i = true then
    (if (t.2.2.2.getD i.toNat default).length = 0 then (tso0, 8)
     else if (storeF t.1 t.2.1 ((t.2.2.2.getD i.toNat default).getD 0 default).1 ((t.2.2.2.getD i.toNat default).getD 0 default).2).2 = 0 then
      (((storeF t.1 t.2.1 ((t.2.2.2.getD i.toNat default).getD 0 default).1 ((t.2.2.2.getD i.toNat default).getD 0 default).2).1.1, (storeF t.1 t.2.1 ((t.2.2.2.getD i.toNat default).getD 0 default).1 ((t.2.2.2.getD i.toNat default).getD 0 default).2).1.2, t.2.2.1,
        t.2.2.2.set i.toNat ((t.2.2.2.getD i.toNat default).drop 1)), 0)
     else (tso0, (storeF t.1 t.2.1 ((t.2.2.2.getD i.toNat default).getD 0 default).1 ((t.2.2.2.getD i.toNat default).getD 0 default).2).2))
  else (tso0, 1)
def becF (k w a b : Int) : Int := if k = 0 then (if w = a then b else w) else if k = 1 then a else IntKind.i64.wrap (w + a)
def lockT (t : Tso) (i k a x y : Int) : Tso × Int × Int :=
  if hasF t.1 t.2.1 t.2.2.1 t.2.2.2 i = true ∧ 0 ≤ k ∧ k < 3 then
    (if 0 < (t.2.2.2.getD i.toNat default).length then (tso0, 0, 9)
     else if (loadF t.1 t.2.1 a).2 = 0 then (((storeF t.1 t.2.1 a (becF k (loadF t.1 t.2.1 a).1 x y)).1.1, (storeF t.1 t.2.1 a (becF k (loadF t.1 t.2.1 a).1 x y)).1.2, t.2.2.1, t.2.2.2), (loadF t.1 t.2.1 a).1, 0)
     else (tso0, 0, (loadF t.1 t.2.1 a).2))
  else (tso0, 0, 1)

theorem hasF_iff {ws ts : List Int} {d : Int} {l : List (List Put)} {i : Int} : hasF ws ts d l i = true ↔ tsoR ws ts d l = true ∧ 0 ≤ i ∧ i < l.length := by simp [hasF]
def sTLoad : FSpec := spec (List Int × List Int × Int × List (List Put) × Int × Int) (fun (ws, ts, d, l, i, a) => [.agg (tsoC ws ts d l), .i i, .i a]) (fun (_, _, _, l, _) => Small l) fun (ws, ts, d, l, i, a) => .tup [.c (.i (loadT (ws, ts, d, l) i a).1), .c (.i (loadT (ws, ts, d, l) i a).2)]
def T6 : List (Nat × FSpec) := (71, sHas) :: (72, sWait) :: T4
theorem T6_ok : GOK Try.prog (tab T6) := gok_cons has_ok (gok_cons wait_ok T4_ok)
set_option maxHeartbeats 4000000 in
set_option maxRecDepth 100000 in
theorem tload_ok : Meets Try.prog 54 sTLoad := by
  refine meets_plain T6_ok rfl [] (fn := Try.f54) rfl rfl rfl (by decide) fun ⟨ws, ts, d, l, i, a⟩ hS => ?_
  repeat' (first | (intro h; first | exact Bool.noConfusion h | (guard_hyp h : true = true; clear h) | (guard_hyp h : false = false; clear h) | (simp only [decide_eq_true_eq, decide_eq_false_iff_not, beq_iff_eq, beq_eq_false_iff_ne, bne_iff_ne, bne_eq_false_iff_eq, Bool.not_eq_true', Bool.not_eq_false', ne_eq, Classical.not_not, Bool.not_true, Bool.not_false, beqL_iff, beqL_ff, List.cons.injEq, and_true] at h) | skip) | ((conv => whnf) <;> (first | exact True.intro | apply br_rec | apply And.intro | apply EntP.k0 | apply EntP.k1 | apply EntP.k2 | apply EntP.k3 | apply EntP.k4 | apply EntP.k5 | apply EntP.k6 | apply DrawP.go | (apply AnyP.mk; kernel_rfl) | (refine AggP.go 2 rfl (by kernel_rfl) ?_) | (refine AggP.go 1 rfl (by kernel_rfl) ?_) | (refine AggP.go 3 rfl (by kernel_rfl) ?_) | (refine AggP.go 4 rfl (by kernel_rfl) ?_) | (refine AggP.go 5 rfl (by kernel_rfl) ?_) | (refine AggP.go 8 rfl (by kernel_rfl) ?_) | (refine AggP.go 11 rfl (by kernel_rfl) ?_) | apply CallP.own0 | apply CallP.own1 | apply CallP.own2 | apply CallP.own3 | apply CallP.nb | apply CutE.go0 | apply CutE.go7 | apply CutE.go6 | apply CutE.go5 | apply CutE.go4 | apply CutE.go3 | apply CutE.go2 | apply CutE.go1 | apply RoP.id | apply wrapS | (with_reducible exact lenNil) | apply Eq.refl)) | ((first | (with_reducible show rvEq _ _ _ _) | (with_reducible show svEq _ _ _ _) | (with_reducible show cellEq _ _ _ _) | (with_reducible show blkEq _ _ _)); conv => whnf))
  all_goals first
    | exact hS.1
    | exact hS.2 _
    | (have := (hasF_iff.1 (by assumption)).2; omega)
    | (simp only [loadT, *, ↓reduceIte, Bool.false_eq_true]; done)
    | ((simp only [loadT, *, ↓reduceIte, Bool.false_eq_true]) <;> rfl)
    | trace_state
def sTStore : FSpec := spec (List Int × List Int × Int × List (List Put) × Int × Int × Int) (fun (ws, ts, d, l, i, a, v) => [.agg (tsoC ws ts d l), .i i, .i a, .i v]) (fun (_, _, _, l, _) => Small l) fun (ws, ts, d, l, i, a, v) => .tup [rTso (storeT (ws, ts, d, l) i a v).1, .c (.i (storeT (ws, ts, d, l) i a v).2)]
set_option maxHeartbeats 4000000 in
set_option maxRecDepth 100000 in
theorem tstore_ok : Meets Try.prog 53 sTStore := by
  refine meets_plain T6_ok rfl [] (fn := Try.f53) rfl rfl rfl (by decide) fun ⟨ws, ts, d, l, i, a, v⟩ hS => ?_
  repeat' (first | (intro h; first | exact Bool.noConfusion h | (guard_hyp h : true = true; clear h) | (guard_hyp h : false = false; clear h) | (simp only [decide_eq_true_eq, decide_eq_false_iff_not, beq_iff_eq, beq_eq_false_iff_ne, bne_iff_ne, bne_eq_false_iff_eq, Bool.not_eq_true', Bool.not_eq_false', ne_eq, Classical.not_not, Bool.not_true, Bool.not_false, beqL_iff, beqL_ff, List.cons.injEq, and_true] at h) | skip) | ((conv => whnf) <;> (first | exact True.intro | apply br_rec | apply And.intro | apply EntP.k0 | apply EntP.k1 | apply EntP.k2 | apply EntP.k3 | apply EntP.k4 | apply EntP.k5 | apply EntP.k6 | apply DrawP.go | (apply AnyP.mk; kernel_rfl) | (refine AggP.go 2 rfl (by kernel_rfl) ?_) | (refine AggP.go 1 rfl (by kernel_rfl) ?_) | (refine AggP.go 3 rfl (by kernel_rfl) ?_) | (refine AggP.go 4 rfl (by kernel_rfl) ?_) | (refine AggP.go 5 rfl (by kernel_rfl) ?_) | (refine AggP.go 8 rfl (by kernel_rfl) ?_) | (refine AggP.go 11 rfl (by kernel_rfl) ?_) | apply CallP.own0 | apply CallP.own1 | apply CallP.own2 | apply CallP.own3 | apply CallP.nb | apply CutE.go0 | apply CutE.go7 | apply CutE.go6 | apply CutE.go5 | apply CutE.go4 | apply CutE.go3 | apply CutE.go2 | apply CutE.go1 | apply RoP.id | apply wrapS | (with_reducible exact lenNil) | apply Eq.refl)) | ((first | (with_reducible show rvEq _ _ _ _) | (with_reducible show svEq _ _ _ _) | (with_reducible show cellEq _ _ _ _) | (with_reducible show blkEq _ _ _)); conv => whnf))
  all_goals first
    | exact hS.1
    | exact hS.2 _
    | (have := (hasF_iff.1 (by assumption)).2; omega)
    | (simp only [storeT, *, ↓reduceIte, Bool.false_eq_true]; done)
    | ((simp only [storeT, *, ↓reduceIte, Bool.false_eq_true]) <;> rfl)
    | (have hd : d = 0 := (by assumption)
       subst hd
       first
        | (simp only [storeT, *, ↓reduceIte, Bool.false_eq_true]; done)
        | ((simp only [storeT, *, ↓reduceIte, Bool.false_eq_true]) <;> rfl))
    | trace_state

theorem CutE.go8 {A B C D E F H I : Type} {p : A × B × C × D × E × F × H × I → Prop} {a : A} {b : B} {c : C} {d : D} {e : E} {f : F} {g : H} {i : I} (h : p (a, b, c, d, e, f, g, i)) : CutE (A × B × C × D × E × F × H × I) p := ⟨⟨(a, b, c, d, e, f, g, i), h⟩⟩
theorem CutE.go9 {A B C D E F H I J : Type} {p : A × B × C × D × E × F × H × I × J → Prop} {a : A} {b : B} {c : C} {d : D} {e : E} {f : F} {g : H} {i : I} {j : J} (h : p (a, b, c, d, e, f, g, i, j)) : CutE (A × B × C × D × E × F × H × I × J) p := ⟨⟨(a, b, c, d, e, f, g, i, j), h⟩⟩

def sBec0 : FSpec := spec (Int × Int × Int) (fun (w, a, b) => [.i w, .i a, .i b]) (fun _ => True) fun (w, a, b) => .i (if w = a then b else w)
def sBec1 : FSpec := spec (Int × Int × Int) (fun (w, a, b) => [.i w, .i a, .i b]) (fun _ => True) fun (w, a, b) => .i a
def sBec2 : FSpec := spec (Int × Int × Int) (fun (w, a, b) => [.i w, .i a, .i b]) (fun _ => True) fun (w, a, b) => .i (IntKind.i64.wrap (w + a))
set_option maxRecDepth 100000 in
theorem bec0_ok : Meets Try.prog 79 sBec0 := by
  refine meets_plain (gok_nil _) rfl [] (fn := Try.f79) rfl rfl rfl (by decide) fun ⟨w, a, b⟩ _ => ?_
  repeat' (first | (intro h; first | exact Bool.noConfusion h | (guard_hyp h : true = true; clear h) | (guard_hyp h : false = false; clear h) | (simp only [decide_eq_true_eq, decide_eq_false_iff_not, beq_iff_eq, beq_eq_false_iff_ne, bne_iff_ne, bne_eq_false_iff_eq, Bool.not_eq_true', Bool.not_eq_false', ne_eq, Classical.not_not, Bool.not_true, Bool.not_false, beqL_iff, beqL_ff, List.cons.injEq, and_true] at h) | skip) | ((conv => whnf) <;> (first | exact True.intro | apply br_rec | apply And.intro | apply EntP.k0 | apply EntP.k1 | apply EntP.k2 | apply EntP.k3 | apply EntP.k4 | apply EntP.k5 | apply EntP.k6 | apply DrawP.go | (apply AnyP.mk; kernel_rfl) | (refine AggP.go 2 rfl (by kernel_rfl) ?_) | (refine AggP.go 1 rfl (by kernel_rfl) ?_) | (refine AggP.go 3 rfl (by kernel_rfl) ?_) | (refine AggP.go 4 rfl (by kernel_rfl) ?_) | (refine AggP.go 5 rfl (by kernel_rfl) ?_) | (refine AggP.go 8 rfl (by kernel_rfl) ?_) | (refine AggP.go 11 rfl (by kernel_rfl) ?_) | apply CallP.own0 | apply CallP.own1 | apply CallP.own2 | apply CallP.own3 | apply CallP.nb | apply CutE.go0 | apply CutE.go7 | apply CutE.go6 | apply CutE.go5 | apply CutE.go4 | apply CutE.go3 | apply CutE.go2 | apply CutE.go1 | apply RoP.id | apply wrapS | (with_reducible exact lenNil) | apply Eq.refl)) | ((first | (with_reducible show rvEq _ _ _ _) | (with_reducible show svEq _ _ _ _) | (with_reducible show cellEq _ _ _ _) | (with_reducible show blkEq _ _ _)); conv => whnf))
  all_goals first
    | (rw [if_pos (by assumption)]; done)
    | (rw [if_neg (by assumption)]; done)
    | trace_state
set_option maxRecDepth 100000 in
theorem bec1_ok : Meets Try.prog 80 sBec1 := by
  refine meets_plain (gok_nil _) rfl [] (fn := Try.f80) rfl rfl rfl (by decide) fun ⟨w, a, b⟩ _ => ?_
  repeat' (first | (intro h; first | exact Bool.noConfusion h | (guard_hyp h : true = true; clear h) | (guard_hyp h : false = false; clear h) | (simp only [decide_eq_true_eq, decide_eq_false_iff_not, beq_iff_eq, beq_eq_false_iff_ne, bne_iff_ne, bne_eq_false_iff_eq, Bool.not_eq_true', Bool.not_eq_false', ne_eq, Classical.not_not, Bool.not_true, Bool.not_false, beqL_iff, beqL_ff, List.cons.injEq, and_true] at h) | skip) | ((conv => whnf) <;> (first | exact True.intro | apply br_rec | apply And.intro | apply EntP.k0 | apply EntP.k1 | apply EntP.k2 | apply EntP.k3 | apply EntP.k4 | apply EntP.k5 | apply EntP.k6 | apply DrawP.go | (apply AnyP.mk; kernel_rfl) | (refine AggP.go 2 rfl (by kernel_rfl) ?_) | (refine AggP.go 1 rfl (by kernel_rfl) ?_) | (refine AggP.go 3 rfl (by kernel_rfl) ?_) | (refine AggP.go 4 rfl (by kernel_rfl) ?_) | (refine AggP.go 5 rfl (by kernel_rfl) ?_) | (refine AggP.go 8 rfl (by kernel_rfl) ?_) | (refine AggP.go 11 rfl (by kernel_rfl) ?_) | apply CallP.own0 | apply CallP.own1 | apply CallP.own2 | apply CallP.own3 | apply CallP.nb | apply CutE.go0 | apply CutE.go7 | apply CutE.go6 | apply CutE.go5 | apply CutE.go4 | apply CutE.go3 | apply CutE.go2 | apply CutE.go1 | apply RoP.id | apply wrapS | (with_reducible exact lenNil) | apply Eq.refl)) | ((first | (with_reducible show rvEq _ _ _ _) | (with_reducible show svEq _ _ _ _) | (with_reducible show cellEq _ _ _ _) | (with_reducible show blkEq _ _ _)); conv => whnf))
set_option maxRecDepth 100000 in
theorem bec2_ok : Meets Try.prog 81 sBec2 := by
  refine meets_plain (gok_nil _) rfl [] (fn := Try.f81) rfl rfl rfl (by decide) fun ⟨w, a, b⟩ _ => ?_
  repeat' (first | (intro h; first | exact Bool.noConfusion h | (guard_hyp h : true = true; clear h) | (guard_hyp h : false = false; clear h) | (simp only [decide_eq_true_eq, decide_eq_false_iff_not, beq_iff_eq, beq_eq_false_iff_ne, bne_iff_ne, bne_eq_false_iff_eq, Bool.not_eq_true', Bool.not_eq_false', ne_eq, Classical.not_not, Bool.not_true, Bool.not_false, beqL_iff, beqL_ff, List.cons.injEq, and_true] at h) | skip) | ((conv => whnf) <;> (first | exact True.intro | apply br_rec | apply And.intro | apply EntP.k0 | apply EntP.k1 | apply EntP.k2 | apply EntP.k3 | apply EntP.k4 | apply EntP.k5 | apply EntP.k6 | apply DrawP.go | (apply AnyP.mk; kernel_rfl) | (refine AggP.go 2 rfl (by kernel_rfl) ?_) | (refine AggP.go 1 rfl (by kernel_rfl) ?_) | (refine AggP.go 3 rfl (by kernel_rfl) ?_) | (refine AggP.go 4 rfl (by kernel_rfl) ?_) | (refine AggP.go 5 rfl (by kernel_rfl) ?_) | (refine AggP.go 8 rfl (by kernel_rfl) ?_) | (refine AggP.go 11 rfl (by kernel_rfl) ?_) | apply CallP.own0 | apply CallP.own1 | apply CallP.own2 | apply CallP.own3 | apply CallP.nb | apply CutE.go0 | apply CutE.go7 | apply CutE.go6 | apply CutE.go5 | apply CutE.go4 | apply CutE.go3 | apply CutE.go2 | apply CutE.go1 | apply RoP.id | apply wrapS | (with_reducible exact lenNil) | apply Eq.refl)) | ((first | (with_reducible show rvEq _ _ _ _) | (with_reducible show svEq _ _ _ _) | (with_reducible show cellEq _ _ _ _) | (with_reducible show blkEq _ _ _)); conv => whnf))
def sBecs : FSpec := spec Unit (fun _ => []) (fun _ => True) fun _ => .s (.agg [.fn 79 [], .fn 80 [], .fn 81 []])
set_option maxRecDepth 100000 in
theorem becs_ok : Meets Try.prog 75 sBecs := by
  refine meets_plain (gok_nil _) rfl [] (fn := Try.f75) rfl rfl rfl (by decide) fun _ _ => ?_
  repeat' (first | (intro h; first | exact Bool.noConfusion h | (guard_hyp h : true = true; clear h) | (guard_hyp h : false = false; clear h) | (simp only [decide_eq_true_eq, decide_eq_false_iff_not, beq_iff_eq, beq_eq_false_iff_ne, bne_iff_ne, bne_eq_false_iff_eq, Bool.not_eq_true', Bool.not_eq_false', ne_eq, Classical.not_not, Bool.not_true, Bool.not_false, beqL_iff, beqL_ff, List.cons.injEq, and_true] at h) | skip) | ((conv => whnf) <;> (first | exact True.intro | apply br_rec | apply And.intro | apply EntP.k0 | apply EntP.k1 | apply EntP.k2 | apply EntP.k3 | apply EntP.k4 | apply EntP.k5 | apply EntP.k6 | apply DrawP.go | (apply AnyP.mk; kernel_rfl) | (refine AggP.go 2 rfl (by kernel_rfl) ?_) | (refine AggP.go 1 rfl (by kernel_rfl) ?_) | (refine AggP.go 3 rfl (by kernel_rfl) ?_) | (refine AggP.go 4 rfl (by kernel_rfl) ?_) | (refine AggP.go 5 rfl (by kernel_rfl) ?_) | (refine AggP.go 8 rfl (by kernel_rfl) ?_) | (refine AggP.go 11 rfl (by kernel_rfl) ?_) | apply CallP.own0 | apply CallP.own1 | apply CallP.own2 | apply CallP.own3 | apply CallP.nb | apply CutE.go0 | apply CutE.go7 | apply CutE.go6 | apply CutE.go5 | apply CutE.go4 | apply CutE.go3 | apply CutE.go2 | apply CutE.go1 | apply RoP.id | apply wrapS | (with_reducible exact lenNil) | apply Eq.refl)) | ((first | (with_reducible show rvEq _ _ _ _) | (with_reducible show svEq _ _ _ _) | (with_reducible show cellEq _ _ _ _) | (with_reducible show blkEq _ _ _)); conv => whnf))
def T7 : List (Nat × FSpec) := (75, sBecs) :: (79, sBec0) :: (80, sBec1) :: (81, sBec2) :: T6
theorem T7_ok : GOK Try.prog (tab T7) := gok_cons becs_ok (gok_cons bec0_ok (gok_cons bec1_ok (gok_cons bec2_ok T6_ok)))

def sTLock : FSpec := spec (List Int × List Int × Int × List (List Put) × Int × Int × Int × Int × Int) (fun (ws, ts, d, l, i, k, a, x, y) => [.agg (tsoC ws ts d l), .i i, .i k, .i a, .i x, .i y]) (fun (_, _, _, l, _) => Small l)
  fun (ws, ts, d, l, i, k, a, x, y) => .tup [rTso (lockT (ws, ts, d, l) i k a x y).1, .c (.i (lockT (ws, ts, d, l) i k a x y).2.1), .c (.i (lockT (ws, ts, d, l) i k a x y).2.2)]
set_option maxHeartbeats 4000000 in
set_option maxRecDepth 100000 in
theorem tlock_ok : Meets Try.prog 59 sTLock := by
  refine meets_plain T7_ok rfl [] (fn := Try.f59) rfl rfl rfl (by decide) fun ⟨ws, ts, d, l, i, k, a, x, y⟩ hS => ?_
  repeat' (first | (intro h; first | exact Bool.noConfusion h | (guard_hyp h : true = true; clear h) | (guard_hyp h : false = false; clear h) | (simp only [decide_eq_true_eq, decide_eq_false_iff_not, beq_iff_eq, beq_eq_false_iff_ne, bne_iff_ne, bne_eq_false_iff_eq, Bool.not_eq_true', Bool.not_eq_false', ne_eq, Classical.not_not, Bool.not_true, Bool.not_false, beqL_iff, beqL_ff, List.cons.injEq, and_true] at h) | skip) | ((conv => whnf) <;> (first | exact True.intro | apply br_rec | apply And.intro | apply EntP.k0 | apply EntP.k1 | apply EntP.k2 | apply EntP.k3 | apply EntP.k4 | apply EntP.k5 | apply EntP.k6 | apply DrawP.go | (apply AnyP.mk; kernel_rfl) | (refine AggP.go 2 rfl (by kernel_rfl) ?_) | (refine AggP.go 1 rfl (by kernel_rfl) ?_) | (refine AggP.go 3 rfl (by kernel_rfl) ?_) | (refine AggP.go 4 rfl (by kernel_rfl) ?_) | (refine AggP.go 5 rfl (by kernel_rfl) ?_) | (refine AggP.go 8 rfl (by kernel_rfl) ?_) | (refine AggP.go 11 rfl (by kernel_rfl) ?_) | apply CallP.own0 | apply CallP.own1 | apply CallP.own2 | apply CallP.own3 | apply CallP.nb | apply CutE.go0 | apply CutE.go7 | apply CutE.go6 | apply CutE.go5 | apply CutE.go4 | apply CutE.go3 | apply CutE.go2 | apply CutE.go1 | apply RoP.id | apply wrapS | (with_reducible exact lenNil) | apply Eq.refl)) | ((first | (with_reducible show rvEq _ _ _ _) | (with_reducible show svEq _ _ _ _) | (with_reducible show cellEq _ _ _ _) | (with_reducible show blkEq _ _ _)); conv => whnf))
  all_goals first
    | exact hS.1
    | exact hS.2 _
    | omega
    | (have := (hasF_iff.1 (by assumption)).2; omega)
    | (by_cases hh : hasF ws ts d l i = true ∧ 0 ≤ k ∧ k < 3
       · by_cases h9 : 0 < (l.getD i.toNat default).length
         · first
            | (exfalso; omega)
            | (exfalso; simp_all; done)
            | (simp only [lockT, hh, h9, and_self, ↓reduceIte]; done)
            | ((simp only [lockT, hh, h9, and_self, ↓reduceIte]) <;> rfl)
         · by_cases hl : (loadF ws ts a).2 = 0
           · have hk2 := hh.2
             obtain hk | hk | hk : k = 0 ∨ k = 1 ∨ k = 2 := by omega
             all_goals subst hk
             all_goals first
              | (exfalso; omega)
              | (simp only [lockT, hh, h9, hl, and_self, ↓reduceIte]; done)
              | ((simp only [lockT, hh, h9, hl, and_self, ↓reduceIte]) <;> rfl)
              | (exfalso; simp_all; done)
           · first
              | (exfalso; omega)
              | (simp only [lockT, hh, h9, hl, and_self, ↓reduceIte]; done)
              | ((simp only [lockT, hh, h9, hl, and_self, ↓reduceIte]) <;> rfl)
              | (exfalso; simp_all; done)
       · first
          | (simp only [lockT, hh, ↓reduceIte]; done)
          | ((simp only [lockT, hh, ↓reduceIte]) <;> rfl)
          | (exfalso; exact hh ⟨by assumption, by omega, by omega⟩))
    | trace_state

def sTFlush : FSpec := spec TsoI (fun (ws, ts, d, l, i) => [.agg (tsoC ws ts d l), .i i]) (fun (_, _, _, l, _) => Small l) fun (ws, ts, d, l, i) => .tup [rTso (flushT (ws, ts, d, l) i).1, .c (.i (flushT (ws, ts, d, l) i).2)]
set_option maxHeartbeats 4000000 in
set_option maxRecDepth 100000 in
theorem tflush_ok : Meets Try.prog 55 sTFlush := by
  refine meets_plain T6_ok rfl [] (fn := Try.f55) rfl rfl rfl (by decide) fun ⟨ws, ts, d, l, i⟩ hS => ?_
  repeat' (first | (intro h; first | exact Bool.noConfusion h | (guard_hyp h : true = true; clear h) | (guard_hyp h : false = false; clear h) | (simp only [decide_eq_true_eq, decide_eq_false_iff_not, beq_iff_eq, beq_eq_false_iff_ne, bne_iff_ne, bne_eq_false_iff_eq, Bool.not_eq_true', Bool.not_eq_false', ne_eq, Classical.not_not, Bool.not_true, Bool.not_false, beqL_iff, beqL_ff, List.cons.injEq, and_true] at h) | skip) | ((conv => whnf) <;> (first | exact True.intro | apply br_rec | apply And.intro | apply EntP.k0 | apply EntP.k1 | apply EntP.k2 | apply EntP.k3 | apply EntP.k4 | apply EntP.k5 | apply EntP.k6 | apply DrawP.go | (apply AnyP.mk; kernel_rfl) | (refine AggP.go 2 rfl (by kernel_rfl) ?_) | (refine AggP.go 1 rfl (by kernel_rfl) ?_) | (refine AggP.go 3 rfl (by kernel_rfl) ?_) | (refine AggP.go 4 rfl (by kernel_rfl) ?_) | (refine AggP.go 5 rfl (by kernel_rfl) ?_) | (refine AggP.go 8 rfl (by kernel_rfl) ?_) | (refine AggP.go 11 rfl (by kernel_rfl) ?_) | apply CallP.own0 | apply CallP.own1 | apply CallP.own2 | apply CallP.own3 | apply CallP.nb | apply CutE.go0 | apply CutE.go7 | apply CutE.go6 | apply CutE.go5 | apply CutE.go4 | apply CutE.go3 | apply CutE.go2 | apply CutE.go1 | apply RoP.id | apply wrapS | (with_reducible exact lenNil) | apply Eq.refl)) | ((first | (with_reducible show rvEq _ _ _ _) | (with_reducible show svEq _ _ _ _) | (with_reducible show cellEq _ _ _ _) | (with_reducible show blkEq _ _ _)); conv => whnf))
  all_goals first
    | exact hS.1
    | exact hS.2 _
    | (have := (hasF_iff.1 (by assumption)).2; omega)
    | (have h8 : ¬ (l.getD i.toNat default).length = 0 := (by intro h8; rw [if_pos h8] at *; contradiction)
       first
        | (simp only [flushT, *, ↓reduceIte, Bool.false_eq_true]; done)
        | ((simp only [flushT, *, ↓reduceIte, Bool.false_eq_true]) <;> rfl))
    | (have h8 : (l.getD i.toNat default).length = 0 := (by by_cases h8 : (l.getD i.toNat default).length = 0; exact h8; rw [if_neg h8] at *; contradiction)
       first
        | (simp only [flushT, *, ↓reduceIte, Bool.false_eq_true]; done)
        | ((simp only [flushT, *, ↓reduceIte, Bool.false_eq_true]) <;> rfl))
    | (simp only [flushT, *, ↓reduceIte, Bool.false_eq_true]; done)
    | ((simp only [flushT, *, ↓reduceIte, Bool.false_eq_true]) <;> rfl)
    | trace_state
end Go.Eng
