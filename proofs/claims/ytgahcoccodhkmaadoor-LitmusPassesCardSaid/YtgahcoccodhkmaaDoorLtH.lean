/- A part of the walks, and of the machine that proves them (LtH). -/
import Derived.Test.YtgahcoccodhkmaaDoorTsB
import Derived.Test.YtgahcoccodhkmaaDoorLtD
import Derived.Test.YtgahcoccodhkmaaDoorLtL
set_option linter.unusedVariables false
set_option linter.unusedSimpArgs false
namespace Go.Eng
open Go Go.Proofs
/-- What a move makes of the machine, what it notes, and whether it may be. -/
def moveT (t : Tso) (i : Nat) (k a v : Int) : Tso × Option Int × Bool :=
  if k = 0 then ((storeT t i a v).1, none, (storeT t i a v).2 == 0)
  else if k = 1 then (t, some (loadT t i a).1, (loadT t i a).2 == 0)
  else if k = 2 then (t, none, ((t.2.2.2.getD i default).length : Int) == 0)
  else ((lockT t i 1 a v 0).1, some (lockT t i 1 a v 0).2.1, (lockT t i 1 a v 0).2.2 == 0)
def ntO (i j : Nat) (l : List Int) : Option Int → List Int
  | none => l
  | some v => ntU i j l v
def lsM (m : Tso × Option Int × Bool) (i a0 a1 a2 : Nat) (n0 n1 n2 : List Int) : List Cell :=
  lsC m.1.1 m.1.2.1 m.1.2.2.1 m.1.2.2.2 (atU i 0 a0) (atU i 1 a1) (atU i 2 a2) (ntO i 0 n0 m.2.1) (ntO i 1 n1 m.2.1) (ntO i 2 n2 m.2.1)
structure MvPre (l : List (List Put)) (a0 a1 a2 : Nat) (n0 n1 n2 : List Int) (i : Nat) (k : Int) : Prop where
  i3 : i < 3
  il : i < l.length
  k0 : 0 ≤ k
  k3 : k ≤ 3
  sm : Small l
  b0 : a0 ≤ 1000
  b1 : a1 ≤ 1000
  b2 : a2 ≤ 1000
  c0 : n0.length ≤ 1000
  c1 : n1.length ≤ 1000
  c2 : n2.length ≤ 1000
def sMove : FSpec := spec (List Int × List Int × Int × List (List Put) × Nat × Nat × Nat × List Int × List Int × List Int × Nat × Int × Int × Int)
  (fun (ws, ts, d, l, a0, a1, a2, n0, n1, n2, i, k, a, v) => [.agg (lsC ws ts d l a0 a1 a2 n0 n1 n2), .i (i : Int), .agg [.i k, .i a, .i v]])
  (fun (_, _, _, l, a0, a1, a2, n0, n1, n2, i, k, _, _) => MvPre l a0 a1 a2 n0 n1 n2 i k)
  fun (ws, ts, d, l, a0, a1, a2, n0, n1, n2, i, k, a, v) => .tup [.agg (lsM (moveT (ws, ts, d, l) i k a v) i a0 a1 a2 n0 n1 n2), .c (.b (moveT (ws, ts, d, l) i k a v).2.2)]
def N2 : List (Nat × FSpec) := (45, sNote) :: (43, sTStore) :: (44, sTLoad) :: (46, sTLock) :: (19, sTFlush) :: N1
theorem N2_ok : GOK Tryd.prog (tab N2) := gok_cons note_ok (gok_cons tstore_ok (gok_cons tload_ok (gok_cons tlock_ok (gok_cons tflush_ok N1_ok))))
theorem CutE.go12 {A B C D E F H I J K L M : Type} {p : A × B × C × D × E × F × H × I × J × K × L × M → Prop} {a : A} {b : B} {c : C} {d : D} {e : E} {f : F} {g : H} {i : I} {j : J} {k : K} {l : L} {m : M} (h : p (a, b, c, d, e, f, g, i, j, k, l, m)) : CutE (A × B × C × D × E × F × H × I × J × K × L × M) p := ⟨⟨(a, b, c, d, e, f, g, i, j, k, l, m), h⟩⟩
set_option maxHeartbeats 8000000 in
set_option maxRecDepth 100000 in
theorem move_ok : Meets Tryd.prog 20 sMove := by
  refine meets_plain N2_ok rfl [] (fn := Tryd.f20) rfl rfl rfl (by decide) fun ⟨ws, ts, d, l, a0, a1, a2, n0, n1, n2, i, k, a, v⟩ h => ?_
  have h : MvPre l a0 a1 a2 n0 n1 n2 i k := h
  obtain ⟨h3, hil, hk0, hk3, hS, g0, g1, g2, c0, c1, c2⟩ := h
  obtain rfl | rfl | rfl | rfl : k = 0 ∨ k = 1 ∨ k = 2 ∨ k = 3 := by omega
  all_goals (obtain rfl | rfl | rfl : i = 0 ∨ i = 1 ∨ i = 2 := by omega)
  all_goals repeat' (first | exact @id (emp _ = true) | (intro h; first | exact Bool.noConfusion h | (simp only [Qn] at h) | skip) | ((conv => whnf) <;> (first | exact trivial | apply Qa | apply And.intro | apply CutE.go12 | apply CutE.go9 | apply Qb | apply Qc | apply Qd | apply Qe | apply Qf | apply Qg | apply Qh | apply Qi | exact QA | exact QP | refine QG ?_ | apply Qj | apply Qk | apply Ql | apply Qm | apply Qo | apply Qp | apply Qw | apply Qv | apply Qu | apply Qt | apply Qs | apply Qr | apply Qq | apply Qx | apply wrapS | apply Qy | (with_reducible exact lenNil) | apply Eq.refl)) | ((with_reducible first | apply Y1 | apply Y2 | apply Y3 | show blkEq _ _ _); conv => whnf))
  all_goals first
    | exact hS.1
    | exact hS.2 _
    | omega
    | rfl
    | trace_state
end Go.Eng
namespace Go.Eng
open Go Go.Proofs
/-- Room for n elements. -/
def sGrow (ty q : Nat) : FSpec := lentSpec 0 Nat (fun n => [.c (.v (.slice none 0 0)), .i n]) (fun _ => []) (fun n => n ≤ 1000000) (fun _ => .c (.osl 0)) fun _ => [.slc ty q 0 (fun _ _ => .any)]
theorem grow_meets {P : Program} {ρ : Go.Shelf.Ren} (L : Lays8.n4 P ρ) {i0 : TypeInfo} {z : Value} (hi0 : P.info? (ρ.t 25) = some i0) (hz0 : i0.zero = some z) (hs0 : 0 < i0.size) (hb : i0.bytes ≤ 100) (hzc : z.cells.size = i0.size) : Meets P (ρ.f 4) (sGrow (ρ.t 25) i0.size) where
  pn := fun _ _ _ h => by cases h
  qn := fun _ j b h => by
    have h : look (numB 0 [Blk.slc (ρ.t 25) i0.size 0 fun _ _ => .any]) j = some b := h
    rw [look_numB, if_pos (Nat.zero_le _)] at h
    exact (List.getElem?_eq_some_iff.1 h).1
  full := fun _ j h => by cases h
  kp := fun _ _ _ h => by cases h
  body := by
    obtain ⟨nm, hn, hf⟩ := L.f4
    exact ⟨_, hf, rfl, hn⟩
  iter := fun γ n item h => by cases h
  run := fun ⟨n⟩ _ hp F hs w vals hnone hargs hrep => by
    have hp : n ≤ 1000000 := hp
    have hnone : ∀ j, hs j = none := fun j => hnone j (Nat.zero_le _)
    have hv : vals = #[.slice none 0 0, .int .i64 n] := by
      obtain ⟨h1, h2⟩ := hargs
      have h1 : vals.size = 2 := h1
      refine Array.ext (by simpa using h1) fun i hi hi' => ?_
      match i, hi with
      | 0, hi => exact (h2 0 _ vals[0] rfl (Array.getElem?_eq_getElem (by omega))).1
      | 1, hi => exact (h2 1 _ vals[1] rfl (Array.getElem?_eq_getElem (by omega))).1
      | i + 2, hi => omega
    subst hv
    have hpost : ∀ (v : Value) (w' : World), BlkRel (fun x => F x ∨ owner (Blk.slc (ρ.t 25) i0.size 0 fun _ _ => .any) v = some x) w' (fun j => if j = 0 then some v else hs j) (Blk.slc (ρ.t 25) i0.size 0 fun _ _ => .any) v → (∃ a n c, v = .slice a n c) →
        (∀ x, owner (Blk.slc (ρ.t 25) i0.size 0 fun _ _ => .any) v = some x → w.heap.size ≤ x) → (∀ O, Fr O w w') →
        Post F hs (look []) w (.c (.osl 0)) (look [(0, Blk.slc (ρ.t 25) i0.size 0 fun _ _ => .any)]) 0 1 v w' := by
      intro v w' hblk hsl how hfr
      have hown : ∀ x, own (fun j => if j = 0 then some v else hs j) (look [(0, Blk.slc (ρ.t 25) i0.size 0 fun _ _ => .any)]) x ↔ owner (Blk.slc (ρ.t 25) i0.size 0 fun _ _ => .any) v = some x := by
        intro x
        constructor
        · rintro ⟨j, b, h, h1, h2, h3⟩
          simp only [look] at h1
          split at h1
          · rename_i e
            subst e
            cases h1
            simp at h2
            subst h2
            exact h3
          · cases h1
        · intro h
          exact ⟨0, _, v, rfl, rfl, h⟩
      refine ⟨fun j => if j = 0 then some v else hs j, ⟨rfl, hsl⟩, ⟨fun j b hj => ?_, ?_, fun x hx => Nat.lt_of_lt_of_le (hrep.lt x hx) (hfr (fun _ => True)).size, fun x hx ho => ?_⟩, fun j h hj => ?_, fun j hj => ?_, hfr _, fun x hx => .inr (how x ((hown x).1 hx))⟩
      · simp only [look] at hj
        split at hj
        · rename_i e
          subst e
          cases hj
          refine ⟨v, rfl, ?_⟩
          have e : (fun x => F x ∨ owner (Blk.slc (ρ.t 25) i0.size 0 fun _ _ => .any) v = some x) = Osum F (fun j => if j = 0 then some v else hs j) (look [(0, Blk.slc (ρ.t 25) i0.size 0 fun _ _ => .any)]) := by
            funext x
            exact propext ⟨fun h => h.elim .inl fun h => .inr ((hown x).2 h), fun h => h.elim .inl fun h => .inr ((hown x).1 h)⟩
          rw [← e]
          exact hblk
        · cases hj
      · intro i j bi bj hi hj x h1 h2 _ _ _ _
        simp only [look] at h1 h2
        split at h1
        · split at h2
          · rename_i e1 e2; exact e1.symm.trans e2
          · cases h2
        · cases h1
      · have := how x ((hown x).1 ho)
        have := hrep.lt x hx
        omega
      · rw [hnone j] at hj; cases hj
      · have hj0 : ¬ j = 0 := fun e => hj ⟨by omega, by omega⟩
        simp [hj0]
    by_cases h0 : n = 0
    · subst h0
      refine (Any8.slices_Grow_room L none 0 0 0 w (Nat.le_refl _) (by omega) (by omega) (by omega)).mono fun e w' ⟨he, hw⟩ => ?_
      subst he hw
      exact ⟨_, rfl, hpost _ _ (.inl ⟨rfl, rfl⟩) ⟨_, _, _, rfl⟩ (fun x hx => by cases hx) fun O => Fr.refl O _⟩
    · have hbb : (0 + n) * i0.bytes ≤ 140737488355328 := by
        have : (0 + n) * i0.bytes ≤ 1000000 * 100 := Nat.mul_le_mul (by omega) hb
        omega
      refine (Any8.slices_Grow_grow L i0 z hi0 hz0 hs0 none 0 0 n [] w (Nat.le_refl _) (by omega) hbb (by omega) (by simp) (fun _ => rfl) (fun a h => by cases h)).mono fun e w' ⟨he, hw⟩ => ?_
      subst he hw
      have hc1 := grownCap_ge w (0 + n) 0 (ρ.t 25)
      have hc2 := grownCap_le_maxLen w (0 + n) 0 (ρ.t 25) (by unfold maxLen; omega)
      generalize grownCap w (0 + n) 0 (ρ.t 25) = cap at *
      refine ⟨_, rfl, hpost _ _ (.inr ⟨w.heap.size, cap, (([] : List Value).toArray ++ Builtin.zeroCells z.cells (0 + n - 0) ++ Builtin.zeroCells z.cells (cap - (0 + n))), rfl, Nat.zero_le _, hc2, ?_, ?_, fun i hi => absurd hi (Nat.not_lt_zero _)⟩) ⟨_, _, _, rfl⟩ (fun x hx => ?_) fun O => ?_⟩
      · show (w.drew.heap.push _)[w.heap.size]? = _
        exact Array.getElem?_push_size
      · simp only [Array.size_append, size_zeroCells, hzc, List.size_toArray, List.length_nil]
        rw [Nat.zero_add, ← Nat.add_mul]
        congr 1
        omega
      · cases hx; exact Nat.le_refl _
      · refine ⟨rfl, rfl, rfl, ?_, fun x hx _ => ?_⟩
        · show w.heap.size ≤ (w.drew.heap.push _).size
          rw [Array.size_push]
          exact Nat.le_succ _
        · show (w.drew.heap.push _)[x]? = w.heap[x]?
          rw [Array.getElem?_push, if_neg (by show ¬ x = w.heap.size; omega)]
          rfl
theorem grow_at {P : Program} {ρ : Go.Shelf.Ren} (L : Lays8.n4 P ρ) {f ty q b : Nat} {z : Value} (hf : ρ.f 4 = f) (ht : ρ.t 25 = ty) (hi0 : (P.info? ty).map (fun i => (i.zero, i.size, i.bytes)) = some (some z, q, b)) (hs0 : 0 < q) (hb : b ≤ 100) (hzc : z.cells.size = q) : Meets P f (sGrow ty q) := by
  subst hf ht
  cases e : P.info? (ρ.t 25) with
  | none => rw [e] at hi0; cases hi0
  | some i =>
    rw [e] at hi0
    have h := Option.some.inj hi0
    have h1 : i.zero = some z := congrArg (fun x => x.1) h
    have h2 : i.size = q := congrArg (fun x => x.2.1) h
    have h3 : i.bytes = b := congrArg (fun x => x.2.2) h
    subst h2 h3
    exact grow_meets L e h1 hs0 hb hzc
theorem growI_ok : Meets Tryd.prog 47 (sGrow 3 1) :=
  grow_at (z := .int .i64 0) (b := 8) layGrowI rfl rfl (by kernel_rfl) (by decide) (by decide) rfl
theorem growM_ok : Meets Tryd.prog 52 (sGrow 28 3) :=
  grow_at (z := .agg #[.int .i64 0, .int .i64 0, .int .i64 0]) (b := 24) layGrowM rfl rfl (by kernel_rfl) (by decide) (by decide) rfl
end Go.Eng
