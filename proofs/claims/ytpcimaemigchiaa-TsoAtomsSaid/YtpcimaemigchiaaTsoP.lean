/- The machine: sizes. -/
import Derived.Test.YtpcimaemigchiaaTsoF
import Derived.Test.YtpcimaemigchiaaBufO
set_option linter.unusedVariables false
set_option linter.unusedSimpArgs false
namespace Go.Eng
open Go Go.Proofs

structure SmallX (t : Tso) : Prop where
  w : t.1.length ≤ 1000
  g : t.2.1.length ≤ 1000
  l : t.2.2.2.length ≤ 1000
  b : ∀ i, (t.2.2.2.getD i default).length ≤ 1000
theorem SmallX.small {t : Tso} (h : SmallX t) : Small t.2.2.2 := ⟨by have := h.l; omega, fun i => by have := h.b i; omega⟩
theorem sx0 : SmallX tso0 := ⟨by decide, by decide, by decide, fun i => by show (([] : List (List Put)).getD i default).length ≤ 1000; simp [List.getD_eq_getElem?_getD]; decide⟩
theorem sx_mach (ws ts : List Int) (d : Int) (l : List (List Put)) : SmallX (machT ws ts d l) where
  w := by show (ws.take 170).length ≤ 1000; rw [List.length_take]; omega
  g := by show (ts.take 170).length ≤ 1000; rw [List.length_take]; omega
  l := by show ((l.take 10).map (List.take 10)).length ≤ 1000; rw [List.length_map, List.length_take]; omega
  b := fun i => by
    show (((l.take 10).map (List.take 10)).getD i default).length ≤ 1000
    rw [List.getD_eq_getElem?_getD, List.getElem?_map]
    cases (l.take 10)[i]? with
    | none => exact Nat.zero_le _
    | some b => show (b.take 10).length ≤ 1000; rw [List.length_take]; omega
theorem sx_set {ws ts : List Int} {d : Int} {l : List (List Put)} (h : SmallX (ws, ts, d, l)) (i : Nat) {b : List Put} (hb : b.length ≤ 1000) : SmallX (ws, ts, d, l.set i b) where
  w := h.w
  g := h.g
  l := by show (l.set i b).length ≤ 1000; rw [List.length_set]; exact h.l
  b := fun j => by
    show ((l.set i b).getD j default).length ≤ 1000
    by_cases e : i = j
    · subst e
      by_cases hi : i < l.length
      · simp only [List.getD_eq_getElem?_getD, List.getElem?_set_self hi]; exact hb
      · rw [List.set_eq_of_length_le (by omega)]; exact h.b i
    · simp only [List.getD_eq_getElem?_getD]
      rw [List.getElem?_set_ne e, ← List.getD_eq_getElem?_getD]
      exact h.b j
theorem sx_mem {ws ts ws' ts' : List Int} {d d' : Int} {l : List (List Put)} (h : SmallX (ws, ts, d, l)) (h1 : ws'.length ≤ ws.length) (h2 : ts'.length ≤ ts.length) : SmallX (ws', ts', d', l) :=
  ⟨Nat.le_trans h1 h.w, Nat.le_trans h2 h.g, h.l, h.b⟩
theorem push_small {b : List Put} {d : Int} {p : Put} : (pushF b d p).1.length ≤ 1000 := by
  rcases push_cases b d p with ⟨hc, e⟩ | ⟨hc, e⟩ | ⟨hc, e⟩ <;> rw [e]
  · exact Nat.zero_le _
  · exact Nat.zero_le _
  · simp only [List.length_append, List.length_cons, List.length_nil]; omega
theorem sx_store {ws ts : List Int} {d : Int} {l : List (List Put)} (h : SmallX (ws, ts, d, l)) (i a v : Int) : SmallX (storeT (ws, ts, d, l) i a v).1 := by
  have h1 := storeF_len ws ts a v
  unfold storeT
  simp only
  split
  · split
    · split
      · exact sx_mem h h1.1 h1.2
      · split
        · exact sx_set h _ push_small
        · exact sx0
    · exact sx0
  · exact sx0
theorem sx_flush {ws ts : List Int} {d : Int} {l : List (List Put)} (h : SmallX (ws, ts, d, l)) (i : Int) : SmallX (flushT (ws, ts, d, l) i).1 := by
  have h1 := storeF_len ws ts ((l.getD i.toNat default).getD 0 default).1 ((l.getD i.toNat default).getD 0 default).2
  unfold flushT
  simp only
  split
  · split
    · exact sx0
    · split
      · refine sx_set (sx_mem h h1.1 h1.2) _ ?_
        have := h.b i.toNat
        simp only [List.length_drop] at this ⊢
        omega
      · exact sx0
  · exact sx0
theorem sx_lock {ws ts : List Int} {d : Int} {l : List (List Put)} (h : SmallX (ws, ts, d, l)) (i k a x y : Int) : SmallX (lockT (ws, ts, d, l) i k a x y).1 := by
  have h1 := fun z => storeF_len ws ts a z
  unfold lockT
  simp only
  split
  · split
    · exact sx0
    · split
      · exact sx_mem h (h1 _).1 (h1 _).2
      · exact sx0
  · exact sx0
theorem sx_new {ws ts : List Int} (h1 : ws.length ≤ 1000) (h2 : ts.length ≤ 1000) (n d : Int) : SmallX (newT ws ts n d).1 := by
  unfold newT
  split
  · split
    · rename_i hz
      have := sizesF_iff.1 hz
      refine ⟨h1, h2, ?_, fun i => ?_⟩
      · show (List.replicate n.toNat ([] : List Put)).length ≤ 1000; rw [List.length_replicate]; omega
      · show ((List.replicate n.toNat ([] : List Put)).getD i default).length ≤ 1000
        rw [List.getD_eq_getElem?_getD, List.getElem?_replicate]
        split <;> exact Nat.zero_le _
    · exact sx0
  · exact sx0
theorem sx_rep {ws ts : List Int} (h1 : ws.length ≤ 1000) (h2 : ts.length ≤ 1000) {n d : Int} (hn : n ≤ 8) : SmallX (ws, ts, d, List.replicate n.toNat []) := by
  refine ⟨h1, h2, ?_, fun i => ?_⟩
  · show (List.replicate n.toNat ([] : List Put)).length ≤ 1000; rw [List.length_replicate]; omega
  · show ((List.replicate n.toNat ([] : List Put)).getD i default).length ≤ 1000
    rw [List.getD_eq_getElem?_getD, List.getElem?_replicate]
    split <;> exact Nat.zero_le _
theorem tsoEq_t (t : Tso) : tsoEq t.1 t.2.1 t.2.2.1 t.2.2.2 t.1 t.2.1 t.2.2.1 t.2.2.2 = true := decide_eq_true ⟨rfl, rfl, rfl, rfl⟩
end Go.Eng
