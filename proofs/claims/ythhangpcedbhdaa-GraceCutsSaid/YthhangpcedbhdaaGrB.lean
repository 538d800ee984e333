/- Grace: stretches. -/
import Derived.Test.YthhangpcedbhdaaGrA
set_option linter.unusedVariables false
set_option linter.unusedSimpArgs false
namespace Go.Eng
open Go Go.Proofs

/-- Coming in. -/
def inG (g : OpG) (k at' most : Int) : OpG :=
  if oD g.2.1 k = 0 then (g.1 ++ [(⟨k, at', -1⟩ : Sc)], setM g.2.1 k (minW 0 most), setM g.2.2 k g.1.length)
  else (g.1, setM g.2.1 k (minW (oD g.2.1 k) most), g.2.2)
def strS (i o most : Int) (g : OpG) (at' : Nat) (x : Ev) : OpG := if x.1 = i then inG g x.2.1 at' most else if x.1 = o then outG g x.2.1 at' else g
def strW (i o most : Int) : List Ev → Nat → OpG → OpG
  | [], _, g => g
  | x :: r, at', g => strW i o most r (at' + 1) (strS i o most g at' x)
def op0 : OpG := ([], (fun _ => none), fun _ => none)
def strF (l : List Ev) (i o most : Int) : List Sc := (strW i o most l 0 op0).1
/-- What is so at each event. -/
structure StI (l : List Ev) (i o most : Int) (k : Nat) (g : OpG) : Prop where
  le : k ≤ l.length
  len : g.1.length ≤ k
  d : ∀ a, 0 ≤ oD g.2.1 a ∧ oD g.2.1 a ≤ k
  ix : ∀ a, ¬ oD g.2.1 a = 0 → 0 ≤ oD g.2.2 a ∧ oD g.2.2 a < g.1.length
  s : strF l i o most = (strW i o most (l.drop k) k g).1
theorem oD_setM (f : Int → Option Int) (k v a : Int) : oD (setM f k v) a = if a = k then v else oD f a := congrFun (oD_set f k v) a
theorem StI.start (l : List Ev) (i o most : Int) : StI l i o most 0 op0 := ⟨Nat.zero_le _, Nat.le_refl _, fun a => ⟨Int.le_refl _, Int.le_refl _⟩, fun a h => absurd rfl h, rfl⟩
theorem StI.step {l : List Ev} {i o most : Int} {k : Nat} {g g' : OpG} (h : StI l i o most k g) (hk : k < l.length) (e : strS i o most g k (l.getD k default) = g') (hl : g'.1.length ≤ k + 1) (hd : ∀ a, 0 ≤ oD g'.2.1 a ∧ oD g'.2.1 a ≤ ((k + 1 : Nat) : Int))
    (hi : ∀ a, ¬ oD g'.2.1 a = 0 → 0 ≤ oD g'.2.2 a ∧ oD g'.2.2 a < g'.1.length) : StI l i o most (k + 1) g' :=
  ⟨hk, hl, hd, hi, by rw [h.s, drop_getD (d := default) hk, strW, e]⟩
theorem StI.inn {l : List Ev} {i o most : Int} {k : Nat} {g : OpG} (h : StI l i o most k g) (hk : k < l.length) (hm : 0 ≤ most) (hx : (l.getD k default).1 = i) : StI l i o most (k + 1) (inG g (l.getD k default).2.1 k most) := by
  refine h.step hk (by rw [strS, if_pos hx]) ?_ (fun a => ?_) fun a ha => ?_
  · unfold inG
    split
    · show (g.1 ++ [_]).length ≤ _; rw [List.length_append]; have := h.len; simp only [List.length_cons, List.length_nil]; omega
    · exact Nat.le_succ_of_le h.len
  · have h1 := h.d a
    have h2 := h.d (l.getD k default).2.1
    unfold inG
    split
    · rw [oD_setM]; unfold minW; split <;> (try split) <;> omega
    · rw [oD_setM]; unfold minW; split <;> (try split) <;> omega
  · revert ha
    unfold inG
    split
    · rename_i h0
      intro ha
      rw [oD_setM] at ha
      rw [oD_setM, List.length_append]
      simp only [List.length_cons, List.length_nil]
      by_cases e : a = (l.getD k default).2.1
      · rw [if_pos e]; omega
      · rw [if_neg e] at ha ⊢; have := h.ix a ha; omega
    · rename_i h0
      intro ha
      rw [oD_setM] at ha
      by_cases e : a = (l.getD k default).2.1
      · rw [e]; exact h.ix _ h0
      · rw [if_neg e] at ha; exact h.ix a ha
theorem StI.out {l : List Ev} {i o most : Int} {k : Nat} {g : OpG} (h : StI l i o most k g) (hk : k < l.length) (hx : ¬ (l.getD k default).1 = i) (hy : (l.getD k default).1 = o) : StI l i o most (k + 1) (outG g (l.getD k default).2.1 k) := by
  refine h.step hk (by rw [strS, if_neg hx, if_pos hy]) (by rw [outG_len]; exact Nat.le_succ_of_le h.len) (fun a => ?_) fun a ha => ?_
  · have h1 := h.d a
    have h2 := h.d (l.getD k default).2.1
    unfold outG
    split
    · omega
    split
    · rw [oD_setM]; split <;> omega
    · rw [oD_setM]; split <;> omega
  · rw [outG_len]
    revert ha
    unfold outG
    split
    · exact h.ix a
    split
    · rename_i h0 h1
      intro ha
      rw [oD_setM] at ha
      by_cases e : a = (l.getD k default).2.1
      · rw [e]; exact h.ix _ h0
      · rw [if_neg e] at ha; exact h.ix a ha
    · rename_i h0 h1
      intro ha
      rw [oD_setM] at ha
      by_cases e : a = (l.getD k default).2.1
      · rw [e]; exact h.ix _ h0
      · rw [if_neg e] at ha; exact h.ix a ha
theorem StI.skip {l : List Ev} {i o most : Int} {k : Nat} {g : OpG} (h : StI l i o most k g) (hk : k < l.length) (hx : ¬ (l.getD k default).1 = i) (hy : ¬ (l.getD k default).1 = o) : StI l i o most (k + 1) g :=
  h.step hk (by rw [strS, if_neg hx, if_neg hy]) (Nat.le_succ_of_le h.len) (fun a => by have := h.d a; omega) h.ix
theorem StI.done {l : List Ev} {i o most : Int} {k : Nat} {g : OpG} (h : StI l i o most k g) (hk : ¬ k < l.length) : strF l i o most = g.1 := by
  rw [h.s, List.drop_eq_nil_of_le (by omega)]; rfl
end Go.Eng
