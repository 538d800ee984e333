/- Grace: threads' names and other events do not matter. -/
import Derived.Test.YthhangpcedbhdaaGrD
set_option linter.unusedVariables false
set_option linter.unusedSimpArgs false
namespace Go.Eng
open Go Go.Proofs

/-- A stretch under other names, its places twice as far. -/
def scl (ρ : Int → Int) (s : Sc) : Sc := ⟨ρ s.th, 2 * s.fr, if s.to < 0 then s.to else 2 * s.to⟩
structure Sim (ρ : Int → Int) (g g' : OpG) : Prop where
  s : g'.1 = g.1.map (scl ρ)
  d : ∀ a, OkI a → oD g'.2.1 (ρ a) = oD g.2.1 a
  w : ∀ a, OkI a → oD g'.2.2 (ρ a) = oD g.2.2 a
def Inj (ρ : Int → Int) : Prop := ∀ a b, OkI a → OkI b → ρ a = ρ b → a = b
theorem sim_set {ρ : Int → Int} (hρ : Inj ρ) {f f' : Int → Option Int} (h : ∀ a, OkI a → oD f' (ρ a) = oD f a) {k v : Int} (hk : OkI k) : ∀ a, OkI a → oD (setM f' (ρ k) v) (ρ a) = oD (setM f k v) a := by
  intro a ha
  rw [oD_setM, oD_setM]
  by_cases e : a = k
  · rw [if_pos e, if_pos (by rw [e])]
  · rw [if_neg e, if_neg (fun h' => e (hρ a k ha hk h')), h a ha]
theorem Sim.inn {ρ : Int → Int} (hρ : Inj ρ) {g g' : OpG} (h : Sim ρ g g') {k : Int} (hk : OkI k) {at' : Nat} {most most' : Int} (hm : minW (oD g.2.1 k) most = minW (oD g.2.1 k) most') : Sim ρ (inG g k at' most) (inG g' (ρ k) ((2 * at' : Nat) : Int) most') := by
  have hd := h.d k hk
  unfold inG
  rw [hd]
  by_cases h0 : oD g.2.1 k = 0
  · rw [if_pos h0, if_pos h0]
    rw [h0] at hm
    refine ⟨?_, ?_, ?_⟩
    · show g'.1 ++ [_] = (g.1 ++ [_]).map (scl ρ)
      rw [List.map_append, h.s]
      rfl
    · show ∀ a, OkI a → oD (setM g'.2.1 (ρ k) (minW 0 most')) (ρ a) = oD (setM g.2.1 k (minW 0 most)) a
      rw [hm]; exact sim_set hρ h.d hk
    · show ∀ a, OkI a → oD (setM g'.2.2 (ρ k) g'.1.length) (ρ a) = oD (setM g.2.2 k g.1.length) a
      rw [h.s, List.length_map]; exact sim_set hρ h.w hk
  · rw [if_neg h0, if_neg h0]
    refine ⟨h.s, ?_, h.w⟩
    show ∀ a, OkI a → oD (setM g'.2.1 (ρ k) (minW (oD g.2.1 k) most')) (ρ a) = oD (setM g.2.1 k (minW (oD g.2.1 k) most)) a
    rw [hm]; exact sim_set hρ h.d hk
theorem Sim.out {ρ : Int → Int} (hρ : Inj ρ) {g g' : OpG} (h : Sim ρ g g') {k : Int} (hk : OkI k) {at' : Nat} (hi : ¬ oD g.2.1 k = 0 → 0 ≤ oD g.2.2 k ∧ oD g.2.2 k < g.1.length) : Sim ρ (outG g k at') (outG g' (ρ k) ((2 * at' : Nat) : Int)) := by
  have hd := h.d k hk
  have hw := h.w k hk
  unfold outG
  rw [hd, hw]
  by_cases h0 : oD g.2.1 k = 0
  · rw [if_pos h0, if_pos h0]; exact h
  rw [if_neg h0, if_neg h0]
  have hi := hi h0
  by_cases h1 : oD g.2.1 k = 1
  · rw [if_pos h1, if_pos h1]
    refine ⟨?_, sim_set hρ h.d hk, h.w⟩
    have hlt : (oD g.2.2 k).toNat < g.1.length := by omega
    show g'.1.set (oD g.2.2 k).toNat _ = (g.1.set (oD g.2.2 k).toNat _).map (scl ρ)
    rw [List.map_set, h.s]
    congr 1
    rw [List.getD_eq_getElem?_getD, List.getElem?_map, List.getElem?_eq_getElem hlt, List.getD_eq_getElem?_getD, List.getElem?_eq_getElem hlt]
    show (⟨ρ (g.1[(oD g.2.2 k).toNat]).th, 2 * (g.1[(oD g.2.2 k).toNat]).fr, ((2 * at' : Nat) : Int)⟩ : Sc) = ⟨ρ (g.1[(oD g.2.2 k).toNat]).th, 2 * (g.1[(oD g.2.2 k).toNat]).fr, if (at' : Int) < 0 then (at' : Int) else 2 * (at' : Int)⟩
    rw [if_neg (by omega)]
    rfl
  · rw [if_neg h1, if_neg h1]
    exact ⟨h.s, sim_set hρ h.d hk, h.w⟩
/-- Events under other names, each followed by another one. -/
def trn (ρ : Int → Int) (y : Ev) (x : Ev) : List Ev := [(x.1, ρ x.2.1, y.2.2.1, y.2.2.2.1, y.2.2.2.2.1, y.2.2.2.2.2), y]
def trnF (ρ : Int → Int) (y : Ev) (l : List Ev) : List Ev := l.flatMap (trn ρ y)
theorem trnF_len (ρ : Int → Int) (y : Ev) : ∀ l : List Ev, (trnF ρ y l).length = 2 * l.length
  | [] => rfl
  | x :: l => by
    show ((trn ρ y x) ++ trnF ρ y l).length = _
    rw [List.length_append, trnF_len ρ y l, List.length_cons]
    show 2 + _ = _
    omega
theorem sim_go {ρ : Int → Int} (hρ : Inj ρ) {y : Ev} {i o most most' : Int} (hy : ¬ y.1 = i ∧ ¬ y.1 = o) {L : List Ev} (hL : ∀ x ∈ L, OkI x.2.1) (hm : 0 ≤ most) (hmm : ∀ d : Int, 0 ≤ d → d < L.length → minW d most = minW d most') :
    ∀ (r : List Ev) (k : Nat) (g g' : OpG), L.drop k = r → StI L i o most k g → Sim ρ g g' → (strW i o most' (trnF ρ y r) (2 * k) g').1 = (strF L i o most).map (scl ρ)
  | [], k, g, g', hr, hI, hS => by
    have : ¬ k < L.length := by
      intro h
      have := congrArg List.length hr
      rw [List.length_drop, List.length_nil] at this
      omega
    rw [hI.done this]
    exact hS.s
  | x :: r, k, g, g', hr, hI, hS => by
    have hk : k < L.length := by
      have := congrArg List.length hr
      rw [List.length_drop, List.length_cons] at this
      omega
    have hx : L.getD k default = x := by
      rw [drop_getD (d := default) hk] at hr
      exact (List.cons.inj hr).1
    have hr2 : L.drop (k + 1) = r := by
      rw [drop_getD (d := default) hk] at hr
      exact (List.cons.inj hr).2
    have hxo : OkI x.2.1 := hL x (by
      rw [← hx, List.getD_eq_getElem?_getD, List.getElem?_eq_getElem hk]
      exact List.getElem_mem hk)
    show (strW i o most' ((x.1, ρ x.2.1, y.2.2.1, y.2.2.2.1, y.2.2.2.2.1, y.2.2.2.2.2) :: y :: trnF ρ y r) (2 * k) g').1 = _
    rw [strW, strW]
    have ey : ∀ (G : OpG) (n : Nat), strS i o most' G n y = G := fun G n => by rw [strS, if_neg hy.1, if_neg hy.2]
    rw [ey, show 2 * k + 1 + 1 = 2 * (k + 1) by omega]
    by_cases h1 : x.1 = i
    · have e : strS i o most' g' (2 * k) (x.1, ρ x.2.1, y.2.2.1, y.2.2.2.1, y.2.2.2.2.1, y.2.2.2.2.2) = inG g' (ρ x.2.1) ((2 * k : Nat) : Int) most' := by rw [strS, if_pos h1]
      rw [e]
      have hn := hI.inn hk hm (by rw [hx]; exact h1)
      rw [hx] at hn
      have hd := hI.d x.2.1
      exact sim_go hρ hy hL hm hmm r (k + 1) _ _ hr2 hn (hS.inn hρ hxo (hmm _ hd.1 (by omega)))
    · by_cases h2 : x.1 = o
      · have e : strS i o most' g' (2 * k) (x.1, ρ x.2.1, y.2.2.1, y.2.2.2.1, y.2.2.2.2.1, y.2.2.2.2.2) = outG g' (ρ x.2.1) ((2 * k : Nat) : Int) := by rw [strS, if_neg h1, if_pos h2]
        rw [e]
        have hn := hI.out hk (by rw [hx]; exact h1) (by rw [hx]; exact h2)
        rw [hx] at hn
        exact sim_go hρ hy hL hm hmm r (k + 1) _ _ hr2 hn (hS.out hρ hxo (hI.ix x.2.1))
      · have e : strS i o most' g' (2 * k) (x.1, ρ x.2.1, y.2.2.1, y.2.2.2.1, y.2.2.2.2.1, y.2.2.2.2.2) = g' := by rw [strS, if_neg h1, if_neg h2]
        rw [e]
        have hn := hI.skip hk (by rw [hx]; exact h1) (by rw [hx]; exact h2)
        exact sim_go hρ hy hL hm hmm r (k + 1) _ _ hr2 hn hS
theorem sim0 (ρ : Int → Int) : Sim ρ op0 op0 := ⟨rfl, fun _ _ => rfl, fun _ _ => rfl⟩
theorem sec_trn {ρ : Int → Int} (hρ : Inj ρ) {y : Ev} (hy : ¬ y.1 = 2 ∧ ¬ y.1 = 3) {L : List Ev} (hL : ∀ x ∈ L, OkI x.2.1) : secF (trnF ρ y L) = (secF L).map (scl ρ) := by
  have h := sim_go (most := L.length) (most' := (trnF ρ y L).length) hρ hy hL (by omega) (fun d h1 h2 => by
    rw [trnF_len]
    unfold minW
    rw [if_neg (by omega), if_neg (by omega)]) L 0 op0 op0 rfl (StI.start L 2 3 L.length) (sim0 ρ)
  exact h
theorem syn_trn {ρ : Int → Int} (hρ : Inj ρ) {y : Ev} (hy : ¬ y.1 = 4 ∧ ¬ y.1 = 5) {L : List Ev} (hL : ∀ x ∈ L, OkI x.2.1) : synF (trnF ρ y L) = (synF L).map (scl ρ) :=
  sim_go (most := 1) (most' := 1) hρ hy hL (by omega) (fun _ _ _ => rfl) L 0 op0 op0 rfl (StI.start L 4 5 1) (sim0 ρ)
theorem spn_scl (ρ : Int → Int) (a b : Sc) : spnF (scl ρ a) (scl ρ b) = spnF a b := by
  show decide (2 * a.fr < 2 * b.fr ∧ 0 ≤ (if b.to < 0 then b.to else 2 * b.to) ∧ ((if a.to < 0 then a.to else 2 * a.to) < 0 ∨ (if b.to < 0 then b.to else 2 * b.to) < (if a.to < 0 then a.to else 2 * a.to))) = decide (a.fr < b.fr ∧ 0 ≤ b.to ∧ (a.to < 0 ∨ b.to < a.to))
  congr 1
  apply propext
  split <;> split <;> omega
theorem gchk_scl (ρ : Int → Int) (y : List Sc) : ∀ (z : List Sc) (i : Nat), gchk (y.map (scl ρ)) (z.map (scl ρ)) i = gchk y z i
  | [], _ => rfl
  | a :: z, i => by
    rw [List.map_cons, gchk, gchk, gchk_scl ρ y z (i + 1), List.any_map]
    have : (spnF (scl ρ a) ∘ scl ρ) = spnF a := funext fun b => spn_scl ρ a b
    rw [this]
theorem chk_trn {ρ : Int → Int} (hρ : Inj ρ) {y : Ev} (hy : y.1 < 2 ∨ 5 < y.1) {L : List Ev} (hL : ∀ x ∈ L, OkI x.2.1) : chkF (trnF ρ y L) = chkF L := by
  show gchk (synF (trnF ρ y L)) (secF (trnF ρ y L)) 0 = gchk (synF L) (secF L) 0
  rw [sec_trn hρ (by omega) hL, syn_trn hρ (by omega) hL, gchk_scl]
theorem wrap_inj (c : Int) : Inj fun a => IntKind.i64.wrap (a + c) := by
  intro a b ha hb h
  have key : ∀ n : Int, IntKind.i64.wrap n = if n % 18446744073709551616 ≥ 9223372036854775808 then n % 18446744073709551616 - 18446744073709551616 else n % 18446744073709551616 := by
    intro n
    show (if (true && decide (n % 18446744073709551616 ≥ 9223372036854775808)) = true then n % 18446744073709551616 - 18446744073709551616 else n % 18446744073709551616) = _
    simp
  have h : IntKind.i64.wrap (a + c) = IntKind.i64.wrap (b + c) := h
  rw [key, key] at h
  obtain ⟨h1, h2⟩ := ha
  obtain ⟨h3, h4⟩ := hb
  revert h
  split <;> split <;> omega
end Go.Eng
