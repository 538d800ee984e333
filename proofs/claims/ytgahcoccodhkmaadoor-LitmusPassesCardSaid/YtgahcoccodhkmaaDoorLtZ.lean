/- A part of the walks, and of the machine that proves them (LtZ). -/
import Derived.Test.YtgahcoccodhkmaaDoorLtY
import Derived.Test.YtgahcoccodhkmaaDoorLtL
set_option linter.unusedVariables false
set_option linter.unusedSimpArgs false
namespace Go.Eng
open Go Go.Proofs Go.Sort
/-- A row's header, and what it reads. -/
structure Elt (O : Nat → Prop) (w : World) where
  v : Value
  l : List Int
  rel : Rel O w (intsS l) noNames v
  len : l.length ≤ 1000000
instance (O : Nat → Prop) (w : World) : Inhabited (Elt O w) := ⟨⟨.slice none 0 0, [], ⟨none, 0, rfl, Nat.le_refl _, fun _ => rfl, fun _ => rfl, fun h => absurd h (Nat.lt_irrefl 0)⟩, Nat.zero_le _⟩⟩
def cfE {O : Nat → Prop} {w : World} (x y : Elt O w) : Int := cmpL x.l y.l
theorem lt_cfE {O : Nat → Prop} {w : World} (x y : Elt O w) : ltOf cfE x y = true ↔ ltL x.l y.l := by
  unfold ltOf cfE ltL
  rw [decide_eq_true_eq]
  rcases cmpL_vals x.l y.l with h | h | h <;> rw [h] <;> decide
theorem lt_cfF {O : Nat → Prop} {w : World} (x y : Elt O w) : ltOf cfE x y = false ↔ ¬ ltL x.l y.l := by
  rw [← lt_cfE]; simp
theorem swoE (O : Nat → Prop) (w : World) : SWO (ltOf (cfE (O := O) (w := w))) where
  irrefl x := (lt_cfF x x).2 (ltL_irrefl _)
  trans x y z h k := (lt_cfE x z).2 (ltL_trans ((lt_cfE x y).1 h) ((lt_cfE y z).1 k))
  ntrans x y z h k := (lt_cfF x z).2 fun hz => by
    have h := (lt_cfF x y).1 h
    have k := (lt_cfF y z).1 k
    rcases ltL_total x.l y.l with e | e | e
    · exact h e
    · rw [← e] at k; exact k hz
    · exact k (ltL_trans e hz)
theorem cmpL_le {a b : List Int} : cmpL a b ≤ 0 ↔ ltL a b ∨ a = b := by
  rcases cmpL_vals a b with h | h | h
  · exact ⟨fun _ => .inl h, fun _ => by rw [h]; decide⟩
  · exact ⟨fun _ => .inr (cmpL_eq _ _ h), fun _ => by rw [h]; decide⟩
  · refine ⟨fun h' => by rw [h] at h'; exact absurd h' (by decide), ?_⟩
    rintro (h' | rfl)
    · rw [h'] at h; cases h
    · rw [cmpL_self] at h; cases h
theorem sort_ex (L : List (List Int)) : ∃ M : List (List Int), M.Perm L ∧ M.Pairwise fun x y => ltL x y ∨ x = y := by
  have h := List.pairwise_mergeSort (le := fun a b => decide (cmpL a b ≤ 0)) (fun a b c h k => by
    simp only [decide_eq_true_eq, cmpL_le] at *
    rcases h with h | rfl
    · rcases k with k | rfl
      · exact .inl (ltL_trans h k)
      · exact .inl h
    · exact k) (fun a b => by
    simp only [Bool.or_eq_true, decide_eq_true_eq, cmpL_le]
    rcases ltL_total a b with h | h | h
    · exact .inl (.inl h)
    · exact .inl (.inr h)
    · exact .inr (.inl h)) L
  exact ⟨_, List.mergeSort_perm _ _, h.imp fun h => cmpL_le.1 (by simpa using h)⟩
/-- The rows in their order. -/
noncomputable def sortL (L : List (List Int)) : List (List Int) := Classical.choose (sort_ex L)
theorem sortL_perm (L : List (List Int)) : (sortL L).Perm L := (Classical.choose_spec (sort_ex L)).1
theorem sortL_sorted (L : List (List Int)) : (sortL L).Pairwise fun x y => ltL x y ∨ x = y := (Classical.choose_spec (sort_ex L)).2
theorem sortL_one {L M : List (List Int)} (hp : M.Perm L) (hs : M.Pairwise fun x y => ltL x y ∨ x = y) : M = sortL L :=
  List.Perm.eq_of_pairwise (fun a b _ _ h k => by
    rcases h with h | h
    · rcases k with k | k
      · exact (ltL_asymm h k).elim
      · exact k.symm
    · exact h) hs (sortL_sorted L) (hp.trans (sortL_perm L).symm)
section
variable {α : Type} [Inhabited α]
theorem sw_heap_ne (enc : α → Value) (w : World) (x m : Nat) (dk : Array α) (os : Array Obj) {b : Nat} (hb : b < w.heap.size) (hne : b ≠ x) : (sortWorld enc w x 0 m dk os).heap[b]? = w.heap[b]? := by
  show ((w.heap.modify x (onCells (putCells enc 0 dk))) ++ os)[b]? = _
  rw [Array.getElem?_append_left (by simpa using hb), Array.getElem?_modify, if_neg (Ne.symm hne)]
theorem sw_heap_eq (enc : α → Value) (w : World) (x m : Nat) (dk : Array α) (os : Array Obj) {cs : Array Value} {ty : TypeId} (hb : w.heap[x]? = some (.cells cs ty (0, 0))) : (sortWorld enc w x 0 m dk os).heap[x]? = some (.cells (putCells enc 0 dk cs) ty (0, 0)) := by
  have hlt := (Array.getElem?_eq_some_iff.1 hb).1
  show ((w.heap.modify x (onCells (putCells enc 0 dk))) ++ os)[x]? = _
  rw [Array.getElem?_append_left (by simpa using hlt), Array.getElem?_modify, if_pos rfl, hb]
  rfl
theorem sw_size (enc : α → Value) (w : World) (x m : Nat) (dk : Array α) (os : Array Obj) : w.heap.size ≤ (sortWorld enc w x 0 m dk os).heap.size := by
  show _ ≤ ((w.heap.modify x (onCells (putCells enc 0 dk))) ++ os).size
  rw [Array.size_append, Array.size_modify]
  exact Nat.le_add_right _ _
end
/-- What compares rows, in any world in which only the row of them has turned. -/
theorem cmp_elt {O : Nat → Prop} {w W : World} (h : ∀ b, ¬ O b → b < w.heap.size → W.heap[b]? = w.heap[b]?) (x y : Elt O w) :
    Calls Tryd.prog 23 (#[x.v, y.v] ++ #[]) W fun e w' => e = .returned (.int .i64 (cfE x y)) ∧ w' = W := by
  have key : ∀ x : Elt O w, ∃ a cap, x.v = .slice a x.l.length cap ∧ (0 < x.l.length → ∃ b off, a = some ⟨b, off, none⟩ ∧ ∀ j, j < x.l.length → W.cell? ⟨b, off + j, none⟩ = some (.int .i64 (x.l.getD j 0))) := by
    intro x
    obtain ⟨a, cap, e1, _, _, _, e5⟩ := x.rel
    refine ⟨a, cap, e1, fun h0 => ?_⟩
    obtain ⟨b, off, e6, e7, e8, e9⟩ := e5 h0
    refine ⟨b, off, e6, fun j hj => ?_⟩
    obtain ⟨u, e10, e11⟩ := e9 j hj 0 (by decide)
    have e11 : u = .int .i64 (x.l.getD j default) := e11.1
    rw [Nat.mul_one, Nat.add_zero] at e10
    rw [cell_of_heap (h b e7 e8), e10, e11]
    rfl
  obtain ⟨a1, c1, e1, f1⟩ := key x
  obtain ⟨a2, c2, e2, f2⟩ := key y
  rw [e1, e2]
  show Calls Tryd.prog _ #[.slice a1 x.l.length c1, .slice a2 y.l.length c2] W _
  unfold cfE
  have hlx := x.len
  have hly := y.len
  generalize x.l = xs at *
  generalize y.l = ys at *
  clear key
  by_cases h1 : 0 < xs.length
  · obtain ⟨b1, o1, rfl, g1⟩ := f1 h1
    by_cases h2 : 0 < ys.length
    · obtain ⟨b2, o2, rfl, g2⟩ := f2 h2
      exact rowC b1 o1 _ c1 b2 o2 _ c2 xs ys W rfl rfl hlx hly g1 g2
    · have hy0 : ys = [] := List.length_eq_zero_iff.1 (by omega)
      subst hy0
      exact rowC1 b1 o1 _ c1 a2 c2 xs W rfl hlx h1 g1
  · have hx0 : xs = [] := List.length_eq_zero_iff.1 (by omega)
    subst hx0
    exact rowC0 a1 a2 c1 _ c2 ys W rfl hly
noncomputable def sSort : FSpec := lentSpec 1 (List (List Int)) (fun _ => [.c (.osl 0), .c (.fn 23 [])]) (fun L => [.slc 36 1 L.length (slG rowE L)]) (fun L => 0 < L.length ∧ Rows5 L) (fun _ => .tup []) fun L => [.slc 36 1 (sortL L).length (slG rowE (sortL L))]
theorem sort_ok : Meets Tryd.prog 22 sSort where
  pn := fun ⟨L⟩ j b h => by
    have h : look (numB 0 [Blk.slc 36 1 L.length (slG rowE L)]) j = some b := h
    rw [look_numB, if_pos (Nat.zero_le _)] at h
    exact (List.getElem?_eq_some_iff.1 h).1
  qn := fun ⟨L⟩ j b h => by
    have h : look (numB 0 [Blk.slc 36 1 (sortL L).length (slG rowE (sortL L))]) j = some b := h
    rw [look_numB, if_pos (Nat.zero_le _)] at h
    exact (List.getElem?_eq_some_iff.1 h).1
  full := fun ⟨L⟩ j h => by
    have h : j < 1 := h
    obtain rfl : j = 0 := by omega
    exact ⟨_, rfl⟩
  kp := fun ⟨L⟩ j b h => by
    have h : look (numB 0 [Blk.slc 36 1 L.length (slG rowE L)]) j = some b := h
    rw [look_numB, if_pos (Nat.zero_le _)] at h
    have hj : j < 1 := (List.getElem?_eq_some_iff.1 h).1
    obtain rfl : j = 0 := by omega
    exact ⟨_, rfl⟩
  body := ⟨_, Tryd.func22, rfl, rfl⟩
  iter := fun γ n item h => by cases h
  run := fun ⟨L⟩ _ hp F hs w vals hnone hargs hrep => by
    obtain ⟨hL0, hL, hLb⟩ : 0 < L.length ∧ L.length ≤ 5000000000 ∧ ∀ i, (L.getD i default).length ≤ 1000000 := hp
    have hrep : WRep F hs (look [(0, Blk.slc 36 1 L.length (slG rowE L))]) w := hrep
    obtain ⟨h1, h2⟩ := hargs
    have h1 : vals.size = 2 := h1
    obtain ⟨v0, hv0, hbr⟩ := hrep.blk 0 _ rfl
    have e0 := h2 0 _ vals[0] rfl (Array.getElem?_eq_getElem (by omega))
    have e0 : hs 0 = some vals[0] := e0.1
    rw [hv0] at e0
    have e0 := Option.some.inj e0
    have e1 := h2 1 _ vals[1] rfl (Array.getElem?_eq_getElem (by omega))
    obtain ⟨arr, e1, e2, _⟩ := e1
    have e2 : arr.size = 0 := e2
    have harr : arr = #[] := Array.eq_empty_of_size_eq_zero e2
    subst harr
    rcases hbr with ⟨_, h0⟩ | ⟨x, cap, cs, hv, hcap, hcap2, hx, hcs, hcell⟩
    · omega
    have hvals : vals = #[.slice (some ⟨x, 0, none⟩) L.length cap, .func (.func 23) #[] #[]] := by
      refine Array.ext (by simpa using h1) fun i hi hi' => ?_
      match i, hi with
      | 0, hi => exact e0.symm.trans hv
      | 1, hi => exact e1
      | i + 2, hi => omega
    subst hvals
    subst hv
    rw [Nat.mul_one] at hcs
    let O := Osum F hs (look [(0, Blk.slc 36 1 L.length (slG rowE L))])
    have hOx : O x := .inr ⟨0, _, _, rfl, hv0, rfl⟩
    have hlt : ∀ i : Fin L.length, i.1 < cs.size := fun i => by have := i.2; omega
    have hrel : ∀ i : Fin L.length, Rel O w (intsS (L.getD i.1 default)) noNames (cs[i.1]'(hlt i)) := fun i => by
      have := hcell i.1 i.2 0 (by decide) (cs[i.1]'(hlt i)) (by rw [Nat.mul_one, Nat.add_zero]; exact Array.getElem?_eq_getElem _)
      exact this
    let d : Array (Elt O w) := Array.ofFn fun i : Fin L.length => ⟨cs[i.1]'(hlt i), L.getD i.1 default, hrel i, hLb _⟩
    have hd : d.size = L.length := by simp [d]
    have hdg : ∀ (j : Nat) (hj : j < L.length), d[j]! = ⟨cs[j]'(hlt ⟨j, hj⟩), L.getD j default, hrel ⟨j, hj⟩, hLb _⟩ := fun j hj => by
      rw [getElem!_pos d j (by omega)]
      exact Array.getElem_ofFn _
    have hxs : x < w.heap.size := (Array.getElem?_eq_some_iff.1 hx).1
    have hH : Holds (fun e : Elt O w => e.v) w x 0 d := fun j hj => by
      rw [hd] at hj
      rw [hdg j hj, Nat.zero_add]
      refine ⟨?_, ?_⟩
      · simp only [World.cell?, hx]
        exact Array.getElem?_eq_getElem _
      · simp [World.frozen?, hx]
    have hcmp : CmpLays1 Tryd.prog 23 #[] (fun e : Elt O w => e.v) cfE x 0 d.size w := fun m os dk hdk a b => by
      refine (cmp_elt (W := sortWorld (fun e : Elt O w => e.v) w x 0 m dk os) (fun b hb hbs => sw_heap_ne _ w x m dk os hbs fun e => hb (e ▸ hOx)) a b).mono fun e w' ⟨he, hw⟩ => ⟨he, 0, #[], ?_⟩
      rw [hw, grow_empty]
      rfl
    have eg : ∀ args w, (callFunc 23 args).run Tryd.prog w = .ok (.enter 23 args) w := enters_of Tryd.func23 (by kernel_rfl) rfl
    have hcon := Any.slices_SortFunc laySort (fun e : Elt O w => e.v) (fun e => rel_one e.rel) cfE (swoE O w) 23 #[] x 0 cap d w eg hcmp hH hxs (by omega)
    rw [hd] at hcon
    refine Calls.mono (show Calls Tryd.prog 22 _ w _ from hcon) fun e w' ⟨he, d', m, os, hperm, hsort, hw⟩ => ?_
    subst he hw
    obtain ⟨p1, _, p3⟩ := hperm
    have hd' : d'.size = L.length := p1.trans hd
    have hL' : d'.toList.map (fun e => e.l) = sortL L := by
      refine sortL_one ?_ ?_
      · have e1 : (d.extract 0 L.length).toList = d.toList := by
          rw [← hd, Array.extract_size]
        have e2 : (d'.extract 0 L.length).toList = d'.toList := by
          rw [← hd', Array.extract_size]
        rw [e1, e2] at p3
        have e3 : d.toList.map (fun e => e.l) = L := by
          refine List.ext_getElem (by simp [hd]) fun i hi1 hi2 => ?_
          rw [List.getElem_map, Array.getElem_toList]
          have := hdg i hi2
          rw [getElem!_pos d i (by omega)] at this
          rw [this]
          show L.getD i default = L[i]
          rw [List.getD_eq_getElem?_getD, List.getElem?_eq_getElem hi2]
          rfl
        have := p3.map (fun e => e.l)
        rw [e3] at this
        exact this
      · rw [List.pairwise_iff_getElem]
        intro i j hi hj hij
        rw [List.length_map, Array.length_toList, hd'] at hi hj
        rw [List.getElem_map, List.getElem_map, Array.getElem_toList, Array.getElem_toList]
        have := (lt_cfF _ _).1 (hsort i j (Nat.zero_le _) hij hj)
        rw [getElem!_pos d' i (by omega), getElem!_pos d' j (by omega)] at this
        rcases ltL_total d'[i].l d'[j].l with h | h | h
        · exact .inl h
        · exact .inr h
        · exact absurd h this
    have hLl : (sortL L).length = L.length := by rw [← hL', List.length_map, Array.length_toList, hd']
    have hOs : ∀ y, own hs (look [(0, Blk.slc 36 1 (sortL L).length (slG rowE (sortL L)))]) y → own hs (look [(0, Blk.slc 36 1 L.length (slG rowE L))]) y := by
      rintro y ⟨j, b, h, g1, g2, g3⟩
      simp only [look] at g1
      split at g1
      · rename_i e
        subst e
        cases g1
        rw [hv0] at g2
        cases g2
        exact ⟨0, _, _, rfl, hv0, g3⟩
      · cases g1
    refine ⟨_, rfl, hs, ⟨#[], rfl, rfl, fun i c v h => by simp at h⟩, ⟨fun j b hj => ?_, ?_, fun y hy => Nat.lt_of_lt_of_le (hrep.lt y hy) (sw_size _ w x m d' os), fun y hy ho => hrep.apart y hy (hOs y ho)⟩, fun _ _ h => h, fun _ _ => rfl, ⟨rfl, rfl, rfl, sw_size _ w x m d' os, fun y hy hn => ?_⟩, fun y hy => .inl (hOs y hy)⟩
    · have hj : look [(0, Blk.slc 36 1 (sortL L).length (slG rowE (sortL L)))] j = some b := hj
      simp only [look] at hj
      split at hj
      · rename_i e
        subst e
        cases hj
        rw [hLl]
        refine ⟨_, hv0, .inr ⟨x, cap, _, rfl, hcap, hcap2, sw_heap_eq _ w x m d' os hx, ?_, fun i hi t ht u hu => ?_⟩⟩
        · simp [putCells, hcs]
        · obtain rfl : t = 0 := by omega
          rw [Nat.mul_one, Nat.add_zero] at hu
          unfold putCells at hu
          rw [Array.getElem?_mapIdx, Array.getElem?_eq_getElem (by omega)] at hu
          simp only [Option.map_some, Nat.zero_le, Nat.zero_add, true_and, Nat.sub_zero, Option.some.injEq] at hu
          rw [if_pos (by omega)] at hu
          subst hu
          have e3 : (sortL L).getD i default = d'[i]!.l := by
            rw [← hL', List.getD_eq_getElem?_getD, List.getElem?_map, getElem!_pos d' i (by omega)]
            rw [List.getElem?_eq_getElem (by rw [Array.length_toList]; omega), Array.getElem_toList]
            rfl
          show Rel _ _ (slG rowE (sortL L) i 0) noNames d'[i]!.v
          show Rel _ _ ((rowE ((sortL L).getD i default)).getD 0 .any) noNames d'[i]!.v
          rw [e3]
          exact Rel.mono (O := O) (w := w) (sw_size _ w x m d' os) (fun y hy hny => sw_heap_ne _ w x m d' os hy fun e => hny (e ▸ hOx)) (fun y hy => .inl (hy.imp id (hOs y))) _ _ _ _ (fun _ _ h => h) d'[i]!.rel
      · cases hj
    · intro i j bi bj hi hj y g1 g2 _ _ _ _
      have g1 : look [(0, Blk.slc 36 1 (sortL L).length (slG rowE (sortL L)))] i = some bi := g1
      have g2 : look [(0, Blk.slc 36 1 (sortL L).length (slG rowE (sortL L)))] j = some bj := g2
      simp only [look] at g1 g2
      split at g1
      · split at g2
        · rename_i a b; exact a.symm.trans b
        · cases g2
      · cases g1
    · exact sw_heap_ne _ w x m d' os hy fun e => hn ⟨0, _, _, rfl, hv0, by rw [e]; rfl⟩
end Go.Eng
