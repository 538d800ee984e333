/- A history: its spans. -/
import Derived.Test.YthhangpcedbhdaaHiA
set_option linter.unusedVariables false
set_option linter.unusedSimpArgs false
namespace Go.Eng
open Go Go.Proofs

/-- A span: its thread, its number, what was asked (four), the reply (two), and its places. -/
structure Sp where
  th : Int
  n : Int
  c0 : Int
  c1 : Int
  c2 : Int
  c3 : Int
  why : Int
  rv : Int
  fr : Int
  to : Int
  deriving DecidableEq, Inhabited
def encSp (s : Sp) : List Cell := [.i s.th, .i s.n, .i s.c0, .i s.c1, .i s.c2, .i s.c3, .i s.why, .i s.rv, .i s.fr, .i s.to]
abbrev spsS (l : List Sp) : Cell := slC 10 encSp l
/-- What is known so far: the spans, which is open of each thread, and how many each has begun. -/
abbrev SpSt := List Sp × (Int → Int) × (Int → Int)
def spS (st : SpSt) (at' : Nat) (x : Ev) : SpSt :=
  if x.1 = 0 then (st.1 ++ [⟨x.2.1, st.2.2 x.2.1, x.2.2.1, x.2.2.2.1, x.2.2.2.2.1, x.2.2.2.2.2, 0, 0, at', -1⟩], (fun a => if a = x.2.1 then (st.1.length : Int) else st.2.1 a), fun a => if a = x.2.1 then st.2.2 a + 1 else st.2.2 a)
  else if x.1 = 1 then (st.1.set (st.2.1 x.2.1).toNat { st.1.getD (st.2.1 x.2.1).toNat default with why := x.2.2.1, rv := x.2.2.2.1, to := at' }, st.2.1, st.2.2)
  else st
def hS : List Ev → Nat → SpSt → List Sp
  | [], _, st => st.1
  | x :: r, at', st => hS r (at' + 1) (spS st at' x)
def spansF (l : List Ev) : List Sp := hS l 0 ([], (fun _ => 0), fun _ => 0)
theorem hS_step {l : List Ev} {k : Nat} (hk : k < l.length) (st : SpSt) : hS (l.drop k) k st = hS (l.drop (k + 1)) (k + 1) (spS st k (l.getD k default)) := by
  rw [drop_getD (d := default) hk, hS]
theorem slG_end {L : List Sp} {i : Nat} {w0 w1 a : Int} (hi : i < L.length) {i' t : Nat} (h' : i' < L.length) (ht : t < 10) :
    upd2 (upd2 (slG encSp L) i 9 [.i a]) i 6 [.i w0, .i w1] i' t = slG encSp (L.set i { L.getD i default with why := w0, rv := w1, to := a }) i' t := by
  by_cases e : i' = i
  · subst e
    have e1 : (L.set i' { L.getD i' default with why := w0, rv := w1, to := a }).getD i' default = { L.getD i' default with why := w0, rv := w1, to := a } := by
      rw [List.getD_eq_getElem?_getD, List.getElem?_set_self h']; rfl
    have : t = 0 ∨ t = 1 ∨ t = 2 ∨ t = 3 ∨ t = 4 ∨ t = 5 ∨ t = 6 ∨ t = 7 ∨ t = 8 ∨ t = 9 := by omega
    unfold slG
    rw [e1]
    rcases this with rfl | rfl | rfl | rfl | rfl | rfl | rfl | rfl | rfl | rfl <;> simp [upd2, encSp]
  · have e1 : (L.set i { L.getD i default with why := w0, rv := w1, to := a }).getD i' default = L.getD i' default := by
      rw [List.getD_eq_getElem?_getD, List.getElem?_set_ne (Ne.symm e), ← List.getD_eq_getElem?_getD]
    unfold slG
    rw [e1]
    simp [upd2, e]
/-- What is so at each event. -/
structure SpI (l : List Ev) (k : Nat) (out : List Sp) (op mn : Int → Option Int) (f : Int → Int) : Prop where
  le : k ≤ l.length
  r : hR (l.drop k) f = true
  ix : ∀ a, f a = 1 → 0 ≤ oD op a ∧ oD op a < out.length
  len : out.length ≤ k
  cnt : ∀ a, 0 ≤ oD mn a ∧ oD mn a ≤ k
  s : spansF l = hS (l.drop k) k (out, oD op, oD mn)
theorem SpI.start {l : List Ev} (h : hRight l = true) : SpI l 0 [] (fun _ => none) (fun _ => none) fun _ => 0 :=
  ⟨Nat.zero_le _, h, fun a ha => absurd ha (by decide), Nat.le_refl _, fun a => ⟨Int.le_refl _, Int.le_refl _⟩, rfl⟩
theorem SpI.skip {l : List Ev} {k : Nat} {out : List Sp} {op mn : Int → Option Int} {f : Int → Int} (h : SpI l k out op mn f) (hk : k < l.length) (h0 : ¬ (l.getD k default).1 = 0) (h1 : ¬ (l.getD k default).1 = 1) : SpI l (k + 1) out op mn f :=
  ⟨hk, by rw [← hR_skip hk ⟨h0, h1⟩]; exact h.r, h.ix, Nat.le_succ_of_le h.len, fun a => ⟨(h.cnt a).1, by have := (h.cnt a).2; omega⟩, by rw [h.s, hS_step hk, spS, if_neg h0, if_neg h1]⟩
theorem SpI.kind {l : List Ev} {k : Nat} {out : List Sp} {op mn : Int → Option Int} {f : Int → Int} (h : SpI l k out op mn f) (hk : k < l.length) (h0 : (l.getD k default).1 = 0 ∨ (l.getD k default).1 = 1) : f (l.getD k default).2.1 = (l.getD k default).1 := by
  by_cases e : f (l.getD k default).2.1 = (l.getD k default).1
  · exact e
  · have := h.r
    rw [hR_no hk h0 e] at this; cases this
/-- Behind a beginning. -/
def spB (out : List Sp) (mn : Int → Option Int) (k : Nat) (x : Ev) : List Sp := out ++ [⟨x.2.1, oD mn x.2.1, x.2.2.1, x.2.2.2.1, x.2.2.2.2.1, x.2.2.2.2.2, 0, 0, k, -1⟩]
def opB (out : List Sp) (op : Int → Option Int) (x : Ev) : Int → Option Int := fun a => if a = x.2.1 then some (out.length : Int) else op a
def mnB (mn : Int → Option Int) (x : Ev) : Int → Option Int := fun a => if a = x.2.1 then some (oD mn x.2.1 + 1) else mn a
theorem SpI.begins {l : List Ev} {k : Nat} {out : List Sp} {op mn : Int → Option Int} {f : Int → Int} (h : SpI l k out op mn f) (hk : k < l.length) (h0 : (l.getD k default).1 = 0) :
    SpI l (k + 1) (spB out mn k (l.getD k default)) (opB out op (l.getD k default)) (mnB mn (l.getD k default)) (fun a => if a = (l.getD k default).2.1 then 1 - (l.getD k default).1 else f a) := by
  have hlen : (spB out mn k (l.getD k default)).length = out.length + 1 := by unfold spB; rw [List.length_append]; rfl
  have hop : oD (opB out op (l.getD k default)) = fun a => if a = (l.getD k default).2.1 then (out.length : Int) else oD op a := oD_set _ _ _
  have hmn : oD (mnB mn (l.getD k default)) = fun a => if a = (l.getD k default).2.1 then oD mn (l.getD k default).2.1 + 1 else oD mn a := oD_set _ _ _
  refine ⟨hk, ?_, fun a ha => ?_, by have := h.len; omega, fun a => ?_, ?_⟩
  · rw [← hR_go hk (.inl h0) (h.kind hk (.inl h0))]; exact h.r
  · rw [hop, hlen]
    have ha : (if a = (l.getD k default).2.1 then 1 - (l.getD k default).1 else f a) = 1 := ha
    show 0 ≤ (if a = (l.getD k default).2.1 then (out.length : Int) else oD op a) ∧ (if a = (l.getD k default).2.1 then (out.length : Int) else oD op a) < _
    by_cases e : a = (l.getD k default).2.1
    · rw [if_pos e]; omega
    · rw [if_neg e] at ha ⊢
      have := h.ix a ha
      omega
  · rw [hmn]
    have := h.cnt a
    have := h.cnt (l.getD k default).2.1
    show 0 ≤ (if a = (l.getD k default).2.1 then oD mn (l.getD k default).2.1 + 1 else oD mn a) ∧ (if a = (l.getD k default).2.1 then oD mn (l.getD k default).2.1 + 1 else oD mn a) ≤ _
    split <;> omega
  · rw [h.s, hS_step hk, spS, if_pos h0, hop, hmn]
    congr 1
    refine Prod.ext rfl (Prod.ext rfl ?_)
    funext a
    show (if a = (l.getD k default).2.1 then oD mn a + 1 else oD mn a) = if a = (l.getD k default).2.1 then oD mn (l.getD k default).2.1 + 1 else oD mn a
    by_cases e : a = (l.getD k default).2.1
    · rw [if_pos e, if_pos e, e]
    · rw [if_neg e, if_neg e]
/-- Behind an end. -/
def spE (out : List Sp) (op : Int → Option Int) (k : Nat) (x : Ev) : List Sp := out.set (oD op x.2.1).toNat { out.getD (oD op x.2.1).toNat default with why := x.2.2.1, rv := x.2.2.2.1, to := k }
theorem SpI.ends {l : List Ev} {k : Nat} {out : List Sp} {op mn : Int → Option Int} {f : Int → Int} (h : SpI l k out op mn f) (hk : k < l.length) (h1 : (l.getD k default).1 = 1) :
    SpI l (k + 1) (spE out op k (l.getD k default)) op mn (fun a => if a = (l.getD k default).2.1 then 1 - (l.getD k default).1 else f a) := by
  have hlen : (spE out op k (l.getD k default)).length = out.length := by unfold spE; rw [List.length_set]
  refine ⟨hk, ?_, fun a ha => ?_, by have := h.len; omega, fun a => ⟨(h.cnt a).1, by have := (h.cnt a).2; omega⟩, ?_⟩
  · rw [← hR_go hk (.inr h1) (h.kind hk (.inr h1))]; exact h.r
  · rw [hlen]
    have ha : (if a = (l.getD k default).2.1 then 1 - (l.getD k default).1 else f a) = 1 := ha
    by_cases e : a = (l.getD k default).2.1
    · rw [if_pos e] at ha; omega
    · rw [if_neg e] at ha
      exact h.ix a ha
  · rw [h.s, hS_step hk, spS, if_neg (by omega), if_pos h1]; rfl
end Go.Eng
namespace Go.Eng
open Go Go.Proofs
theorem slG_snocG {α : Type} [Inhabited α] {enc : α → List Cell} {l : List α} {x : α} {q i t : Nat} {cs : List Cell} (hq : cs.length = q) (hi : i < (l ++ [x]).length) (ht : t < q) (hc : cs = enc x) : slG enc (l ++ [x]) i t = catG l.length (slG enc l) (litG q cs) i t := by
  subst hc hq
  exact (slG_snoc rfl rfl i (by simpa using hi) t ht).symm
theorem SpI.done {l : List Ev} {k : Nat} {out : List Sp} {op mn : Int → Option Int} {f : Int → Int} (h : SpI l k out op mn f) (hk : ¬ k < l.length) : spansF l = out := by
  rw [h.s, List.drop_eq_nil_of_le (by omega)]; rfl
theorem spB_len (out : List Sp) (mn : Int → Option Int) (k : Nat) (x : Ev) : (spB out mn k x).length = out.length + 1 := by unfold spB; rw [List.length_append]; rfl
theorem spE_len (out : List Sp) (op : Int → Option Int) (k : Nat) (x : Ev) : (spE out op k x).length = out.length := by unfold spE; rw [List.length_set]
def histF (l : List Ev) : List Sp × Int := if hRight l = true then (spansF l, 0) else ([], 1)
def sSpans : FSpec := spec (List Ev) (fun l => [.c (evsS l)]) (fun l => l.length ≤ 1000) fun l => .tup [.c (spsS (histF l).1), .c (.i (histF l).2)]
def H1 : List (Nat × FSpec) := [(41, sHRight)]
theorem H1_ok : GOK Try.prog (tab H1) := gok_cons hright_ok (gok_nil _)
set_option maxHeartbeats 8000000 in
set_option maxRecDepth 100000 in
theorem spans_ok : Meets Try.prog 17 sSpans := by
  refine meets_plain H1_ok rfl [] (fn := Try.f17) rfl rfl rfl (by decide) fun l hl => ?_
  have hl : l.length ≤ 1000 := hl
  cases hr : hRight l with
  | false =>
    show bodyK Try.prog _ _ _ _ sSpans l
    have e1 : sSpans.res l = .tup [.c (spsS []), .c (.i 1)] := by show RV.tup _ = _; rw [histF, hr]; rfl
    unfold bodyK
    rw [e1]
    clear e1
    repeat' (first | (intro h; first | exact Bool.noConfusion h | (guard_hyp h : true = true; clear h) | (guard_hyp h : false = false; clear h) | (simp only [decide_eq_true_eq, decide_eq_false_iff_not, beq_iff_eq, beq_eq_false_iff_ne, bne_iff_ne, bne_eq_false_iff_eq, Bool.not_eq_true', Bool.not_eq_false', ne_eq, Classical.not_not, Bool.not_true, Bool.not_false, beqL_iff, beqL_ff, List.cons.injEq, and_true] at h) | skip) | ((conv => whnf) <;> (first | exact True.intro | apply br_rec | apply And.intro | apply EntP.k0 | apply EntP.k1 | apply EntP.k2 | apply EntP.k3 | apply EntP.k4 | apply EntP.k5 | apply EntP.k6 | apply DrawP.go | (apply AnyP.mk; kernel_rfl) | (refine AggP.go 2 rfl (by kernel_rfl) ?_) | (refine AggP.go 1 rfl (by kernel_rfl) ?_) | (refine AggP.go 3 rfl (by kernel_rfl) ?_) | (refine AggP.go 4 rfl (by kernel_rfl) ?_) | (refine AggP.go 5 rfl (by kernel_rfl) ?_) | (refine AggP.go 8 rfl (by kernel_rfl) ?_) | (refine AggP.go 11 rfl (by kernel_rfl) ?_) | (refine AggP.go 10 rfl (by kernel_rfl) ?_) | (refine PairP.go (by kernel_rfl) ?_) | apply CallP.own0 | apply CallP.own1 | apply CallP.own2 | apply CallP.own3 | apply CallP.nb | apply CutE.go0 | apply CutE.go7 | apply CutE.go6 | apply CutE.go5 | apply CutE.go4 | apply CutE.go3 | apply CutE.go2 | apply CutE.go1 | apply RoP.id | apply wrapS | (with_reducible exact lenNil) | apply Eq.refl)) | ((first | (with_reducible show rvEq _ _ _ _) | (with_reducible show svEq _ _ _ _) | (with_reducible show cellEq _ _ _ _) | (with_reducible show blkEq _ _ _)); conv => whnf))
    all_goals first
      | (show l.length ≤ 1000000; omega)
      | (exfalso; exact Bool.noConfusion (hr.symm.trans (show hRight l = true by assumption)))
      | trace_state
  | true =>
    show bodyK Try.prog _ _ _ _ sSpans l
    have e1 : sSpans.res l = .tup [.c (spsS (spansF l)), .c (.i 0)] := by show RV.tup _ = _; rw [histF, if_pos hr]
    unfold bodyK
    rw [e1]
    clear e1
    repeat' (first | (intro h; first | exact Bool.noConfusion h | (guard_hyp h : true = true; clear h) | (guard_hyp h : false = false; clear h) | (simp only [decide_eq_true_eq, decide_eq_false_iff_not, beq_iff_eq, beq_eq_false_iff_ne, bne_iff_ne, bne_eq_false_iff_eq, Bool.not_eq_true', Bool.not_eq_false', ne_eq, Classical.not_not, Bool.not_true, Bool.not_false, beqL_iff, beqL_ff, List.cons.injEq, and_true] at h) | skip) | ((conv => whnf) <;> (first | exact True.intro | apply br_rec | apply And.intro | apply EntP.k0 | apply EntP.k1 | apply EntP.k2 | apply EntP.k3 | apply EntP.k4 | apply EntP.k5 | apply EntP.k6 | apply DrawP.go | (apply AnyP.mk; kernel_rfl) | (refine AggP.go 2 rfl (by kernel_rfl) ?_) | (refine AggP.go 1 rfl (by kernel_rfl) ?_) | (refine AggP.go 3 rfl (by kernel_rfl) ?_) | (refine AggP.go 4 rfl (by kernel_rfl) ?_) | (refine AggP.go 5 rfl (by kernel_rfl) ?_) | (refine AggP.go 8 rfl (by kernel_rfl) ?_) | (refine AggP.go 11 rfl (by kernel_rfl) ?_) | (refine AggP.go 10 rfl (by kernel_rfl) ?_) | (refine PairP.go (by kernel_rfl) ?_) | apply CallP.own0 | apply CallP.own1 | apply CallP.own2 | apply CallP.own3 | apply CallP.nb | apply CutE.go0 | apply CutE.go7 | apply CutE.go6 | apply CutE.go5 | apply CutE.go4 | apply CutE.go3 | apply CutE.go2 | apply CutE.go1 | apply RoP.id | apply wrapS | (with_reducible exact lenNil) | apply Eq.refl)) | ((first | (with_reducible show rvEq _ _ _ _) | (with_reducible show svEq _ _ _ _) | (with_reducible show cellEq _ _ _ _) | (with_reducible show blkEq _ _ _)); conv => whnf))
    all_goals try first
      | (show l.length ≤ 1000000; omega)
      | (exfalso; exact Bool.noConfusion (hr.symm.trans (show hRight l = false by assumption)))
    apply LoopP.up (G := Nat × List Sp × (Int → Option Int) × (Int → Option Int) × (Int → Int)) (fun g => SpI l g.1 g.2.1 g.2.2.1 g.2.2.2.1 g.2.2.2.2) [4, 5, 6, 16, 17, 18] (fun g => [(4, .c (.osl 2)), (18, .i g.1)]) (fun g => [(0, .imap g.2.2.1), (1, .imap g.2.2.2.1), (2, .slc 39 10 g.2.1.length (slG encSp g.2.1))]) 3 (fun g => l.length - g.1)
    apply And.intro
    · refine CutE.at (0, [], (fun _ => none), (fun _ => none), fun _ => 0) ⟨EntP.at (n := 3) [⟨false, 4, 0, 39, 10⟩] [0, 1, 2] ?_, SpI.start hr⟩
      repeat' (first | (intro h; first | exact Bool.noConfusion h | (guard_hyp h : true = true; clear h) | (guard_hyp h : false = false; clear h) | (simp only [decide_eq_true_eq, decide_eq_false_iff_not, beq_iff_eq, beq_eq_false_iff_ne, bne_iff_ne, bne_eq_false_iff_eq, Bool.not_eq_true', Bool.not_eq_false', ne_eq, Classical.not_not, Bool.not_true, Bool.not_false, beqL_iff, beqL_ff, List.cons.injEq, and_true] at h) | skip) | ((conv => whnf) <;> (first | exact True.intro | apply br_rec | apply And.intro | apply EntP.k0 | apply EntP.k1 | apply EntP.k2 | apply EntP.k3 | apply EntP.k4 | apply EntP.k5 | apply EntP.k6 | apply DrawP.go | (apply AnyP.mk; kernel_rfl) | (refine AggP.go 2 rfl (by kernel_rfl) ?_) | (refine AggP.go 1 rfl (by kernel_rfl) ?_) | (refine AggP.go 3 rfl (by kernel_rfl) ?_) | (refine AggP.go 4 rfl (by kernel_rfl) ?_) | (refine AggP.go 5 rfl (by kernel_rfl) ?_) | (refine AggP.go 8 rfl (by kernel_rfl) ?_) | (refine AggP.go 11 rfl (by kernel_rfl) ?_) | (refine AggP.go 10 rfl (by kernel_rfl) ?_) | (refine PairP.go (by kernel_rfl) ?_) | apply CallP.own0 | apply CallP.own1 | apply CallP.own2 | apply CallP.own3 | apply CallP.nb | apply CutE.go0 | apply CutE.go7 | apply CutE.go6 | apply CutE.go5 | apply CutE.go4 | apply CutE.go3 | apply CutE.go2 | apply CutE.go1 | apply RoP.id | apply wrapS | (with_reducible exact lenNil) | apply Eq.refl)) | ((first | (with_reducible show rvEq _ _ _ _) | (with_reducible show svEq _ _ _ _) | (with_reducible show cellEq _ _ _ _) | (with_reducible show blkEq _ _ _)); conv => whnf))
      all_goals first
        | (rename_i i hi t; exact absurd hi (Nat.not_lt_zero _))
        | omega
        | rfl
        | trace_state
    rintro ⟨k, out, op, mn, f⟩ hI
    have hI : SpI l k out op mn f := hI
    have hk := hI.le
    have hlen := hI.len
    have hcnt := hI.cnt (l.getD k default).2.1
    have hwm : IntKind.i64.wrap (oD mn (l.getD k default).2.1 + 1) = oD mn (l.getD k default).2.1 + 1 := wrap_i64 (by omega)
    by_cases hkl : k < l.length
    · by_cases h0 : (l.getD k default).1 = 0
      · have hn := hI.begins hkl h0
        have hlB := spB_len out mn k (l.getD k default)
        repeat' (first | (intro h; first | exact Bool.noConfusion h | (guard_hyp h : true = true; clear h) | (guard_hyp h : false = false; clear h) | (simp only [decide_eq_true_eq, decide_eq_false_iff_not, beq_iff_eq, beq_eq_false_iff_ne, bne_iff_ne, bne_eq_false_iff_eq, Bool.not_eq_true', Bool.not_eq_false', ne_eq, Classical.not_not, Bool.not_true, Bool.not_false, beqL_iff, beqL_ff, List.cons.injEq, and_true] at h) | skip) | ((conv => whnf) <;> (first | exact True.intro | apply br_rec | apply And.intro | refine CutE.at (A := Nat × List Sp × (Int → Option Int) × (Int → Option Int) × (Int → Int)) (k + 1, spB out mn k (l.getD k default), opB out op (l.getD k default), mnB mn (l.getD k default), fun a => if a = (l.getD k default).2.1 then 1 - (l.getD k default).1 else f a) ?_ | apply EntP.k0 | apply EntP.k1 | apply EntP.k2 | apply EntP.k3 | apply EntP.k4 | apply EntP.k5 | apply EntP.k6 | apply DrawP.go | (apply AnyP.mk; kernel_rfl) | (refine AggP.go 2 rfl (by kernel_rfl) ?_) | (refine AggP.go 1 rfl (by kernel_rfl) ?_) | (refine AggP.go 3 rfl (by kernel_rfl) ?_) | (refine AggP.go 4 rfl (by kernel_rfl) ?_) | (refine AggP.go 5 rfl (by kernel_rfl) ?_) | (refine AggP.go 8 rfl (by kernel_rfl) ?_) | (refine AggP.go 11 rfl (by kernel_rfl) ?_) | (refine AggP.go 10 rfl (by kernel_rfl) ?_) | (refine PairP.go (by kernel_rfl) ?_) | apply CallP.own0 | apply CallP.own1 | apply CallP.own2 | apply CallP.own3 | apply CallP.nb | apply CutE.go0 | apply CutE.go7 | apply CutE.go6 | apply CutE.go5 | apply CutE.go4 | apply CutE.go3 | apply CutE.go2 | apply CutE.go1 | apply RoP.id | apply wrapS | (with_reducible exact lenNil) | apply Eq.refl)) | ((first | (with_reducible show rvEq _ _ _ _) | (with_reducible show svEq _ _ _ _) | (with_reducible show cellEq _ _ _ _) | (with_reducible show blkEq _ _ _)); conv => whnf))
        all_goals try simp only [Int.toNat_natCast] at *
        all_goals first
          | omega
          | exact hn
          | rfl
          | (exfalso; omega)
          | (show (out.length + 1) * 80 ≤ _; omega)
          | (show l.length - (k + 1) < l.length - k; omega)
          | (show mnB mn _ _ = if _ then some (IntKind.i64.wrap (oD mn _ + 1)) else _; rw [hwm]; rfl)
          | exact slG_snocG rfl (by assumption) (by assumption) rfl
          | trace_state
      · by_cases h1 : (l.getD k default).1 = 1
        · have hn := hI.ends hkl h1
          have hix := hI.ix (l.getD k default).2.1 ((hI.kind hkl (.inr h1)).trans h1)
          have hlE := spE_len out op k (l.getD k default)
          repeat' (first | (intro h; first | exact Bool.noConfusion h | (guard_hyp h : true = true; clear h) | (guard_hyp h : false = false; clear h) | (simp only [decide_eq_true_eq, decide_eq_false_iff_not, beq_iff_eq, beq_eq_false_iff_ne, bne_iff_ne, bne_eq_false_iff_eq, Bool.not_eq_true', Bool.not_eq_false', ne_eq, Classical.not_not, Bool.not_true, Bool.not_false, beqL_iff, beqL_ff, List.cons.injEq, and_true] at h) | skip) | ((conv => whnf) <;> (first | exact True.intro | apply br_rec | apply And.intro | refine CutE.at (A := Nat × List Sp × (Int → Option Int) × (Int → Option Int) × (Int → Int)) (k + 1, spE out op k (l.getD k default), op, mn, fun a => if a = (l.getD k default).2.1 then 1 - (l.getD k default).1 else f a) ?_ | apply EntP.k0 | apply EntP.k1 | apply EntP.k2 | apply EntP.k3 | apply EntP.k4 | apply EntP.k5 | apply EntP.k6 | apply DrawP.go | (apply AnyP.mk; kernel_rfl) | (refine AggP.go 2 rfl (by kernel_rfl) ?_) | (refine AggP.go 1 rfl (by kernel_rfl) ?_) | (refine AggP.go 3 rfl (by kernel_rfl) ?_) | (refine AggP.go 4 rfl (by kernel_rfl) ?_) | (refine AggP.go 5 rfl (by kernel_rfl) ?_) | (refine AggP.go 8 rfl (by kernel_rfl) ?_) | (refine AggP.go 11 rfl (by kernel_rfl) ?_) | (refine AggP.go 10 rfl (by kernel_rfl) ?_) | (refine PairP.go (by kernel_rfl) ?_) | apply CallP.own0 | apply CallP.own1 | apply CallP.own2 | apply CallP.own3 | apply CallP.nb | apply CutE.go0 | apply CutE.go7 | apply CutE.go6 | apply CutE.go5 | apply CutE.go4 | apply CutE.go3 | apply CutE.go2 | apply CutE.go1 | apply RoP.id | apply wrapS | (with_reducible exact lenNil) | apply Eq.refl)) | ((first | (with_reducible show rvEq _ _ _ _) | (with_reducible show svEq _ _ _ _) | (with_reducible show cellEq _ _ _ _) | (with_reducible show blkEq _ _ _)); conv => whnf))
          all_goals try simp only [Int.toNat_natCast] at *
          all_goals first
            | omega
            | exact hn
            | rfl
            | exact hix.1
            | exact hix.2
            | (show (oD op (l.getD k default).2.1).toNat < out.length; omega)
            | (exfalso; omega)
            | (show l.length - (k + 1) < l.length - k; omega)
            | exact (slG_end (by omega) (by omega) (by assumption)).symm
            | trace_state
        · have hn := hI.skip hkl h0 h1
          repeat' (first | (intro h; first | exact Bool.noConfusion h | (guard_hyp h : true = true; clear h) | (guard_hyp h : false = false; clear h) | (simp only [decide_eq_true_eq, decide_eq_false_iff_not, beq_iff_eq, beq_eq_false_iff_ne, bne_iff_ne, bne_eq_false_iff_eq, Bool.not_eq_true', Bool.not_eq_false', ne_eq, Classical.not_not, Bool.not_true, Bool.not_false, beqL_iff, beqL_ff, List.cons.injEq, and_true] at h) | skip) | ((conv => whnf) <;> (first | exact True.intro | apply br_rec | apply And.intro | refine CutE.at (A := Nat × List Sp × (Int → Option Int) × (Int → Option Int) × (Int → Int)) (k + 1, out, op, mn, f) ?_ | apply EntP.k0 | apply EntP.k1 | apply EntP.k2 | apply EntP.k3 | apply EntP.k4 | apply EntP.k5 | apply EntP.k6 | apply DrawP.go | (apply AnyP.mk; kernel_rfl) | (refine AggP.go 2 rfl (by kernel_rfl) ?_) | (refine AggP.go 1 rfl (by kernel_rfl) ?_) | (refine AggP.go 3 rfl (by kernel_rfl) ?_) | (refine AggP.go 4 rfl (by kernel_rfl) ?_) | (refine AggP.go 5 rfl (by kernel_rfl) ?_) | (refine AggP.go 8 rfl (by kernel_rfl) ?_) | (refine AggP.go 11 rfl (by kernel_rfl) ?_) | (refine AggP.go 10 rfl (by kernel_rfl) ?_) | (refine PairP.go (by kernel_rfl) ?_) | apply CallP.own0 | apply CallP.own1 | apply CallP.own2 | apply CallP.own3 | apply CallP.nb | apply CutE.go0 | apply CutE.go7 | apply CutE.go6 | apply CutE.go5 | apply CutE.go4 | apply CutE.go3 | apply CutE.go2 | apply CutE.go1 | apply RoP.id | apply wrapS | (with_reducible exact lenNil) | apply Eq.refl)) | ((first | (with_reducible show rvEq _ _ _ _) | (with_reducible show svEq _ _ _ _) | (with_reducible show cellEq _ _ _ _) | (with_reducible show blkEq _ _ _)); conv => whnf))
          all_goals try simp only [Int.toNat_natCast] at *
          all_goals first
            | omega
            | exact hn
            | (exfalso; omega)
            | (show l.length - (k + 1) < l.length - k; omega)
            | trace_state
    · have hd := hI.done hkl
      repeat' (first | (intro h; first | exact Bool.noConfusion h | (guard_hyp h : true = true; clear h) | (guard_hyp h : false = false; clear h) | (simp only [decide_eq_true_eq, decide_eq_false_iff_not, beq_iff_eq, beq_eq_false_iff_ne, bne_iff_ne, bne_eq_false_iff_eq, Bool.not_eq_true', Bool.not_eq_false', ne_eq, Classical.not_not, Bool.not_true, Bool.not_false, beqL_iff, beqL_ff, List.cons.injEq, and_true] at h) | skip) | ((conv => whnf) <;> (first | exact True.intro | apply br_rec | apply And.intro | refine CutE.at (A := Nat × List Sp × (Int → Option Int) × (Int → Option Int) × (Int → Int)) (k + 1, out, op, mn, f) ?_ | apply EntP.k0 | apply EntP.k1 | apply EntP.k2 | apply EntP.k3 | apply EntP.k4 | apply EntP.k5 | apply EntP.k6 | apply DrawP.go | (apply AnyP.mk; kernel_rfl) | (refine AggP.go 2 rfl (by kernel_rfl) ?_) | (refine AggP.go 1 rfl (by kernel_rfl) ?_) | (refine AggP.go 3 rfl (by kernel_rfl) ?_) | (refine AggP.go 4 rfl (by kernel_rfl) ?_) | (refine AggP.go 5 rfl (by kernel_rfl) ?_) | (refine AggP.go 8 rfl (by kernel_rfl) ?_) | (refine AggP.go 11 rfl (by kernel_rfl) ?_) | (refine AggP.go 10 rfl (by kernel_rfl) ?_) | (refine PairP.go (by kernel_rfl) ?_) | apply CallP.own0 | apply CallP.own1 | apply CallP.own2 | apply CallP.own3 | apply CallP.nb | apply CutE.go0 | apply CutE.go7 | apply CutE.go6 | apply CutE.go5 | apply CutE.go4 | apply CutE.go3 | apply CutE.go2 | apply CutE.go1 | apply RoP.id | apply wrapS | (with_reducible exact lenNil) | apply Eq.refl)) | ((first | (with_reducible show rvEq _ _ _ _) | (with_reducible show svEq _ _ _ _) | (with_reducible show cellEq _ _ _ _) | (with_reducible show blkEq _ _ _)); conv => whnf))
      all_goals first
        | (exfalso; omega)
        | (show (spansF l).length = out.length; rw [hd])
        | (show slG encSp (spansF l) _ _ = slG encSp out _ _; rw [hd])
        | trace_state
end Go.Eng
