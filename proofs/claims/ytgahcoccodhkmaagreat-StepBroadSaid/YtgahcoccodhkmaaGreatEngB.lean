/- A part of the walks, and of the machine that proves them (EngB). -/
import Derived.Test.YtgahcoccodhkmaaGreatEngA
import Derived.RangeFuncRecord
import Derived.Laws.StructEq
import Derived.TacticsIn
import Derived.OrdersIn
import Derived.Orders
set_option linter.unusedVariables false
set_option linter.unusedSimpArgs false
namespace Go.Eng
open Go
def ArgsRel (O : Nat → Prop) (w : World) (hs : Names) (args : List RV) (vals : Array Value) : Prop :=
  vals.size = args.length ∧ ∀ (i : Nat) a v, args[i]? = some a → vals[i]? = some v → RVRel O w a hs v
/-- A value that is all there. -/
def valSv : Sv → Value
  | .c (.v x) => x
  | .agg l => .agg (l.map fun | .v x => x | _ => undef).toArray
  | _ => undef
def cm : Obj → Bool
  | .cells .. => true
  | .map .. => true
  | _ => false
/-- A call of yield. -/
def YieldsAt (P : Program) (l : Nat) (args : Array Value) (W : World) (R : Ending → World → Prop) : Prop :=
  ∃ fn tmps assign body, (Instr.yield l args).run P W = .ok (.round l fn tmps assign body) W ∧ RoundIn Fence.wide 0 P l fn tmps assign body W R
def Cell.one : Cell → Bool
  | .v x => x.oneCell'
  | _ => false
def Sv.one : Sv → Bool
  | .c x => x.one
  | .agg l => l.all Cell.one
theorem one_rel {O : Nat → Prop} {w : World} {hs : Names} {x : Sv} (h : x.one = true) : RVRel O w (.s x) hs (valSv x) := by
  cases x with
  | c c =>
    cases c <;> first | (cases h; done) | skip
    exact ⟨rfl, h⟩
  | agg l =>
    have h : l.all Cell.one = true := h
    refine ⟨_, rfl, by simp, fun i c v hc hv => ?_⟩
    have hm : c ∈ l := List.mem_of_getElem? hc
    have hp := List.all_eq_true.1 h c hm
    cases c <;> first | (cases hp; done) | skip
    rename_i y
    simp only [List.getElem?_toArray, List.getElem?_map, hc, Option.map_some, Option.some.injEq] at hv
    exact ⟨hv.symm, hp⟩
/-- What a function does that is ranged over: it hands out the items, till all have been or a round says no more; what it looks at must lie as it lay. -/
def IterRun (P : Program) (f : FuncId) (vals : Array Value) (n : Nat) (item : Nat → Array Value) (X : Nat → Prop) (w : World) : Prop :=
  ∀ (l : Nat) (J : Nat → World → Prop) (Jx : World → Prop),
    (∀ k W, J k W → w.heap.size ≤ W.heap.size ∧ ∀ (x : Nat) (o : Obj), w.heap[x]? = some o → cm o = true → X x → W.heap[x]? = some o) →
    (∀ k, k < n → ∀ W, J k W → YieldsAt P l (item k) W fun e W' => (e = .returned (.bool true) ∧ J (k + 1) W') ∨ (e = .returned (.bool false) ∧ Jx W')) →
    J 0 w → CallsIn Fence.wide 0 P f (#[.func (.yield l) #[] #[]] ++ vals) w fun e w' => (∃ v, e = .returned v) ∧ (J n w' ∨ Jx w')
/-- How a call ends: by a panic, or by a return. -/
def EndsAs (p : Option (List PanicEntry)) (e : Ending) (v : Value) : Prop :=
  match p with
  | none => e = .returned v
  | some ch => e = .panicked ch
structure Meets (P : Program) (f : FuncId) (S : FSpec) : Prop where
  pn : ∀ γ j b, look (S.blks γ) j = some b → j < (S.blks γ).length
  qn : ∀ γ j b, look (S.post γ) j = some b → j < (S.post γ).length
  full : ∀ γ j, j < (S.blks γ).length → ∃ b, look (S.blks γ) j = some b
  kp : ∀ γ j b, look (S.blks γ) j = some b → ∃ b', look (S.post γ) j = some b'
  body : ∃ fn, P.funcs[f]? = some fn ∧ fn.body.isSome = true ∧ (fn.name == "runtime.NumGoroutine") = false
  iter : ∀ γ n item, S.yields γ = some (n, item) → S.pre γ → ∀ (F : Nat → Prop) (hs : Names) (w : World) (vals : Array Value), (∀ j, (S.blks γ).length ≤ j → hs j = none) →
    ArgsRel (Osum F hs (look (S.blks γ))) w hs (S.args γ) vals → WRep F hs (look (S.blks γ)) w → IterRun P f vals n (fun k => ((item k).map valSv).toArray) (fun x => ¬ F x) w
  run : ∀ γ, S.yields γ = none → S.pre γ → ∀ (F : Nat → Prop) (hs : Names) (w : World) (vals : Array Value), (∀ j, (S.blks γ).length ≤ j → hs j = none) →
    ArgsRel (Osum F hs (look (S.blks γ))) w hs (S.args γ) vals → WRep F hs (look (S.blks γ)) w →
    Calls P f vals w fun e w' => ∃ v, EndsAs (S.panics γ) e v ∧ Post F hs (look (S.blks γ)) w (S.res γ) (look (S.post γ)) (S.blks γ).length (max (S.blks γ).length (S.post γ).length) v w'
section
variable {P : Program} {o : Oper} {regs : List RV} {bs : List (Nat × Blk)} {nx : Nat} {rv : RV} {rd : List (Nat × Blk)}
theorem capsEq_rel {hs hc : Names} {σ : List Nat} (hσ : ∀ i j h, σ[i]? = some j → hs j = some h → hc i = some h) : ∀ (l l' : List Cap), capsEq σ l l' →
    l'.length = l.length ∧ ∀ (i : Nat) c x, l[i]? = some c → (∀ c', l'[i]? = some c' → CapRel hs c' x) → CapRel hc c x
  | [], [], _ => ⟨rfl, fun i c x h => by simp at h⟩
  | .ptr p q :: l, .ptr p' q' :: l', h => by
    obtain ⟨⟨h1, rfl⟩, h2⟩ := h
    obtain ⟨h3, h4⟩ := capsEq_rel hσ l l' h2
    refine ⟨by simp [h3], fun i c x hc' hx => ?_⟩
    cases i with
    | zero =>
      simp at hc'; subst hc'
      obtain ⟨b, h5, h6⟩ := hx _ rfl
      exact ⟨b, hσ _ _ _ h1 h5, h6⟩
    | succ i => exact h4 i c x (by simpa using hc') (fun c' h => hx c' (by simpa using h))
  | .v p :: l, .v p' :: l', h => by
    obtain ⟨rfl, h2⟩ := h
    obtain ⟨h3, h4⟩ := capsEq_rel hσ l l' h2
    refine ⟨by simp [h3], fun i c x hc' hx => ?_⟩
    cases i with
    | zero => simp at hc'; subst hc'; exact hx _ rfl
    | succ i => exact h4 i c x (by simpa using hc') (fun c' h => hx c' (by simpa using h))
  | [], _ :: _, h => h.elim
  | .ptr _ _ :: _, [], h => h.elim
  | .v _ :: _, [], h => h.elim
  | .ptr _ _ :: _, .v _ :: _, h => h.elim
  | .v _ :: _, .ptr _ _ :: _, h => h.elim
theorem cellEq0_rel {O O' : Nat → Prop} {w : World} {hs hs' : Names} (hO : ∀ x, O' x → O x) {c c' : Cell} (he : cellEq0 c c') {u : Value} (hu : Rel O w c' hs u) : Rel O' w c hs' u := by
  have hmono : ∀ (c : Cell) (u : Value), Rel O w c noNames u → Rel O' w c noNames u := fun c u h =>
    Rel.mono (Nat.le_refl _) (fun _ _ _ => rfl) (fun x h => .inl (hO x h)) _ _ _ _ (fun _ _ h => h) h
  unfold cellEq0 at he
  split at he
  · exact rel_one hu
  · exact rel_one hu
  · exact rel_one hu
  · obtain ⟨rfl, rfl⟩ := he; exact hu
  · subst he; exact hu
  · subst he; exact hu
  · obtain ⟨rfl, rfl, ht, hg⟩ := he
    obtain ⟨a, cap, h1, h2, h3, h4, h5⟩ := hu
    refine ⟨a, cap, h1, h2, fun h => h3 (ht h), h4, fun hn => ?_⟩
    obtain ⟨b, off, h6, h7, h8, h9⟩ := h5 hn
    refine ⟨b, off, h6, fun h => h7 (hO b h), h8, fun i hi t ht => ?_⟩
    obtain ⟨x, h10, h11⟩ := h9 i hi t ht
    exact ⟨x, h10, by rw [hg i hi t ht]; exact hmono _ _ h11⟩
  · obtain ⟨rfl, hg⟩ := he
    obtain ⟨b, off, h1, h2, h3, h4⟩ := hu
    refine ⟨b, off, h1, fun h => h2 (hO b h), h3, fun t ht => ?_⟩
    obtain ⟨x, h5, h6⟩ := h4 t ht
    exact ⟨x, h5, by rw [hg t ht]; exact hmono _ _ h6⟩
  · exact he.elim
theorem proEqK_spec {g : Nat → Cell} : ∀ (l : List Cell) (t0 : Nat), proEqK g t0 l → ∀ (t : Nat) (c : Cell), l[t]? = some c → cellEq0 (g (t0 + t)) c
  | [], _, _, t, c, h => by simp at h
  | d :: l, t0, h, t, c, hc => by
    obtain ⟨h1, h2⟩ := h
    cases t with
    | zero => simp at hc; subst hc; exact h1
    | succ t =>
      have := proEqK_spec l (t0 + 1) h2 t c (by simpa using hc)
      rwa [show t0 + 1 + t = t0 + (t + 1) by omega] at this
/-- From the cell that is there to the cell that is told. -/
theorem cellEq_rel {F : Nat → Prop} {hs hc : Names} {B : Mem} {O' : Nat → Prop} {w : World} {σ : List Nat} (hw : WRep F hs B w) (hO : ∀ x, O' x → Osum F hs B x)
    (hσ : ∀ i j h, σ[i]? = some j → hs j = some h → hc i = some h) (c c' : Cell)
    (hl : ∀ j ∈ lentC c c', ∃ b, look bs j = some b ∧ B j = some b ∧ ∀ x h, hs j = some h → owner b h = some x → ¬ O' x)
    (he : cellEq bs σ c c') {u : Value} (hu : Rel (Osum F hs B) w c' hs u) : Rel O' w c hc u := by
  have hmono : ∀ (c : Cell) (u : Value), Rel (Osum F hs B) w c noNames u → Rel O' w c noNames u := fun c u h =>
    Rel.mono (Nat.le_refl _) (fun _ _ _ => rfl) (fun x h => .inl (hO x h)) _ _ _ _ (fun _ _ h => h) h
  unfold cellEq at he
  split at he
  · exact rel_one hu
  · obtain ⟨rfl, rfl⟩ := he; exact hu
  · subst he; exact hu
  · subst he; exact hu
  · rename_i n k t g n' k' t' g'
    obtain ⟨rfl, rfl, ht, hg⟩ := he
    obtain ⟨a, cap, h1, h2, h3, h4, h5⟩ := hu
    refine ⟨a, cap, h1, h2, fun h => h3 (ht h), h4, fun hn => ?_⟩
    obtain ⟨b, off, h6, h7, h8, h9⟩ := h5 hn
    refine ⟨b, off, h6, fun h => h7 (hO b h), h8, fun i hi t ht => ?_⟩
    obtain ⟨x, h10, h11⟩ := h9 i hi t ht
    exact ⟨x, h10, by rw [hg i hi t ht]; exact hmono _ _ h11⟩
  · rename_i n k t g j
    obtain ⟨rfl, he⟩ := he
    obtain ⟨b, hb, he⟩ := lookK_spec _ _ _ he
    obtain ⟨b', hb', hB, hno⟩ := hl j (by simp [lentC])
    rw [hb] at hb'; cases hb'
    obtain ⟨h, hh, hr⟩ := hw.blk j b hB
    rw [hu.1] at hh; cases hh
    split at he
    · rename_i ty k' n' g'
      obtain ⟨rfl, rfl, hg⟩ := he
      rcases hr with ⟨rfl, rfl⟩ | ⟨x0, cap, cs, rfl, h2, _, h3, h4, h5⟩
      · exact ⟨none, 0, rfl, Nat.le_refl _, (fun h => by cases h), fun _ => rfl, fun h => absurd h (by omega)⟩
      · refine ⟨_, cap, rfl, h2, (fun h => by cases h), (fun h => by cases h), fun hn => ⟨x0, 0, rfl, hno x0 _ hu.1 rfl, (Array.getElem?_eq_some_iff.1 h3).1, fun i hi t ht => ?_⟩⟩
        have hlt : i * k + t < cs.size := by
          rw [h4]
          calc i * k + t < i * k + k := by omega
            _ = (i + 1) * k := by rw [Nat.add_mul, Nat.one_mul]
            _ ≤ cap * k := Nat.mul_le_mul_right _ (by omega)
        exact ⟨cs[i * k + t], by simp [World.cell?, h3, Array.getElem?_eq_getElem hlt], by rw [hg i hi t ht]; exact hmono _ _ (h5 i hi t ht _ (Array.getElem?_eq_getElem hlt))⟩
    · rename_i k' n' g'
      obtain ⟨rfl, rfl, hg⟩ := he
      obtain ⟨a, cap, h1, h2, h3, h4, h5⟩ := hr
      refine ⟨a, cap, h1, h2, (fun h => by cases h), h4, fun hn => ?_⟩
      obtain ⟨b, off, h6, h7, h8, h9⟩ := h5 hn
      refine ⟨b, off, h6, fun h => h7 (hO b h), h8, fun i hi t ht => ?_⟩
      obtain ⟨x, h10, h11⟩ := h9 i hi t ht
      exact ⟨x, h10, by rw [hg i hi t ht]; exact hmono _ _ h11⟩
    · exact he.elim
  · obtain ⟨hu1, _⟩ := hu
    subst he
    exact ⟨none, 0, hu1, Nat.le_refl _, fun _ => rfl, fun _ => rfl, fun h => absurd h (by omega)⟩
  · obtain ⟨rfl, hg⟩ := he
    obtain ⟨b, off, h1, h2, h3, h4⟩ := hu
    refine ⟨b, off, h1, fun h => h2 (hO b h), h3, fun t ht => ?_⟩
    obtain ⟨x, h5, h6⟩ := h4 t ht
    exact ⟨x, h5, by rw [hg t ht]; exact hmono _ _ h6⟩
  · rename_i k g j o
    obtain ⟨b, hb, he⟩ := lookK_spec _ _ _ he
    obtain ⟨b', hb', hB, hno⟩ := hl j (by simp [lentC])
    rw [hb] at hb'; cases hb'
    obtain ⟨h, hh, hr⟩ := hw.blk j b hB
    split at he
    · rename_i ty l
      obtain ⟨r, he, h1, h2, h3⟩ := subK_spec _ _ _ _ he
      obtain ⟨bb, hbb, rfl⟩ := hu
      obtain ⟨x, cs, rfl, h4, h5, h6⟩ := hr
      rw [hh] at hbb; cases hbb
      refine ⟨bb, o, rfl, hno bb _ hh rfl, (Array.getElem?_eq_some_iff.1 h4).1, fun t ht => ?_⟩
      have hlt : o + t < cs.size := by omega
      have hlt' : o + t < l.length := by omega
      have hc : l[o + t]? = some l[o + t] := List.getElem?_eq_getElem hlt'
      have hv : cs[o + t]? = some cs[o + t] := Array.getElem?_eq_getElem hlt
      refine ⟨cs[o + t], by simp [World.cell?, h4, hv], ?_⟩
      have := proEqK_spec r 0 he t l[o + t] (by rw [h3 t ht]; exact hc)
      rw [Nat.zero_add] at this
      exact cellEq0_rel hO this (h6 _ _ _ hc hv)
    · exact he.elim
  · obtain ⟨h1, rfl⟩ := he
    obtain ⟨b, h2, h3⟩ := hu
    exact ⟨b, hσ _ _ _ h1 h2, h3⟩
  · exact ⟨hσ _ _ _ he hu.1, hu.2⟩
  · exact ⟨hσ _ _ _ he hu.1, hu.2⟩
  · rename_i f l f' l'
    obtain ⟨rfl, he⟩ := he
    obtain ⟨arr, h1, h2, h3⟩ := hu
    obtain ⟨h4, h5⟩ := capsEq_rel hσ l l' he
    exact ⟨arr, h1, by rw [h2, h4], fun i c x hc' hx => h5 i c x hc' (fun c' hc'' => h3 i c' x hc'' hx)⟩
  · obtain ⟨h1, rfl, rfl, rfl⟩ := he
    obtain ⟨b, cap, h2, h3, h4⟩ := hu
    exact ⟨b, cap, hσ _ _ _ h1 h2, h3, h4⟩
  · rename_i f l f' l'
    obtain ⟨rfl, he⟩ := he
    obtain ⟨arr, h1, h2, h3⟩ := hu
    obtain ⟨h4, h5⟩ := capsEq_rel hσ l l' he
    exact ⟨arr, h1, by rw [h2, h4], fun i c x hc' hx => h5 i c x hc' (fun c' hc'' => h3 i c' x hc'' hx)⟩
  · exact he.elim
section
variable {F : Nat → Prop} {hs hc : Names} {B : Mem} {O' : Nat → Prop} {w : World} {σ : List Nat}
/-- A name that may be lent. -/
def Lent (bs : List (Nat × Blk)) (hs : Names) (B : Mem) (O' : Nat → Prop) (j : Nat) : Prop :=
  ∃ b, look bs j = some b ∧ B j = some b ∧ ∀ x h, hs j = some h → owner b h = some x → ¬ O' x
theorem cellsEq_rel (hw : WRep F hs B w) (hO : ∀ x, O' x → Osum F hs B x) (hσ : ∀ i j h, σ[i]? = some j → hs j = some h → hc i = some h) :
    ∀ (l l' : List Cell), (∀ j ∈ lentCs l l', Lent bs hs B O' j) → cellsEq bs σ l l' →
      l'.length = l.length ∧ ∀ (i : Nat) c u, l[i]? = some c → (∀ c', l'[i]? = some c' → Rel (Osum F hs B) w c' hs u) → Rel O' w c hc u
  | [], [], _, _ => ⟨rfl, fun i c u h => by simp at h⟩
  | c :: l, c' :: l', hl, h => by
    obtain ⟨h1, h2⟩ := h
    obtain ⟨h3, h4⟩ := cellsEq_rel hw hO hσ l l' (fun j hj => hl j (List.mem_append.2 (.inr hj))) h2
    refine ⟨by simp [h3], fun i d u hd hu => ?_⟩
    cases i with
    | zero =>
      simp at hd; subst hd
      exact cellEq_rel hw hO hσ c c' (fun j hj => hl j (List.mem_append.2 (.inl hj))) h1 (hu c' rfl)
    | succ i => exact h4 i d u (by simpa using hd) (fun e he => hu e (by simpa using he))
  | [], _ :: _, _, h => h.elim
  | _ :: _, [], _, h => h.elim
theorem svEq_rel (hw : WRep F hs B w) (hO : ∀ x, O' x → Osum F hs B x) (hσ : ∀ i j h, σ[i]? = some j → hs j = some h → hc i = some h)
    (x y : Sv) (hl : ∀ j ∈ lentS x y, Lent bs hs B O' j) (h : svEq bs σ x y) {u : Value} (hu : SvRel (Osum F hs B) w y hs u) : SvRel O' w x hc u := by
  unfold svEq at h
  split at h
  · exact cellEq_rel hw hO hσ _ _ hl h hu
  · obtain ⟨h1, h2⟩ := cellsEq_rel hw hO hσ _ _ hl h
    obtain ⟨cs, h3, h4, h5⟩ := hu
    exact ⟨cs, h3, by rw [h4, h1], fun i c v hc hv => h2 i c v hc fun c' hc' => h5 i c' v hc' hv⟩
  · exact h.elim
theorem svsEq_rel (hw : WRep F hs B w) (hO : ∀ x, O' x → Osum F hs B x) (hσ : ∀ i j h, σ[i]? = some j → hs j = some h → hc i = some h) :
    ∀ (l l' : List Sv), (∀ j ∈ lentT l l', Lent bs hs B O' j) → svsEq bs σ l l' →
      l'.length = l.length ∧ ∀ (i : Nat) c u, l[i]? = some c → (∀ c', l'[i]? = some c' → SvRel (Osum F hs B) w c' hs u) → SvRel O' w c hc u
  | [], [], _, _ => ⟨rfl, fun i c u h => by simp at h⟩
  | c :: l, c' :: l', hl, h => by
    obtain ⟨h1, h2⟩ := h
    obtain ⟨h3, h4⟩ := svsEq_rel hw hO hσ l l' (fun j hj => hl j (List.mem_append.2 (.inr hj))) h2
    refine ⟨by simp [h3], fun i d u hd hu => ?_⟩
    cases i with
    | zero =>
      simp at hd; subst hd
      exact svEq_rel hw hO hσ c c' (fun j hj => hl j (List.mem_append.2 (.inl hj))) h1 (hu c' rfl)
    | succ i => exact h4 i d u (by simpa using hd) (fun e he => hu e (by simpa using he))
  | [], _ :: _, _, h => h.elim
  | _ :: _, [], _, h => h.elim
theorem rvEq_rel (hw : WRep F hs B w) (hO : ∀ x, O' x → Osum F hs B x) (hσ : ∀ i j h, σ[i]? = some j → hs j = some h → hc i = some h)
    (x y : RV) (hl : ∀ j ∈ lentR x y, Lent bs hs B O' j) (h : rvEq bs σ x y) {u : Value} (hu : RVRel (Osum F hs B) w y hs u) : RVRel O' w x hc u := by
  unfold rvEq at h
  split at h
  · trivial
  · exact svEq_rel hw hO hσ _ _ hl h hu
  · obtain ⟨h1, h2⟩ := svsEq_rel hw hO hσ _ _ hl h
    obtain ⟨cs, h3, h4, h5⟩ := hu
    exact ⟨cs, h3, by rw [h4, h1], fun i c v hc hv => h2 i c v hc fun c' hc' => h5 i c' v hc' hv⟩
  · exact hu
  · exact h.elim
theorem rvsEq_rel (hw : WRep F hs B w) (hO : ∀ x, O' x → Osum F hs B x) (hσ : ∀ i j h, σ[i]? = some j → hs j = some h → hc i = some h) :
    ∀ (l l' : List RV), (∀ j ∈ lentRs l l', Lent bs hs B O' j) → rvsEq bs σ l l' →
      l'.length = l.length ∧ ∀ (i : Nat) c u, l[i]? = some c → (∀ c', l'[i]? = some c' → RVRel (Osum F hs B) w c' hs u) → RVRel O' w c hc u
  | [], [], _, _ => ⟨rfl, fun i c u h => by simp at h⟩
  | c :: l, c' :: l', hl, h => by
    obtain ⟨h1, h2⟩ := h
    obtain ⟨h3, h4⟩ := rvsEq_rel hw hO hσ l l' (fun j hj => hl j (List.mem_append.2 (.inr hj))) h2
    refine ⟨by simp [h3], fun i d u hd hu => ?_⟩
    cases i with
    | zero =>
      simp at hd; subst hd
      exact rvEq_rel hw hO hσ c c' (fun j hj => hl j (List.mem_append.2 (.inl hj))) h1 (hu c' rfl)
    | succ i => exact h4 i d u (by simpa using hd) (fun e he => hu e (by simpa using he))
  | [], _ :: _, _, h => h.elim
  | _ :: _, [], _, h => h.elim
theorem owner_row (ty ty' : TypeId) (l l' : List Cell) (h : Value) : owner (.row ty l) h = owner (.row ty' l') h := by
  cases h with
  | pointer a => cases a <;> rfl
  | _ => rfl
theorem owner_imap (f f' : Int → Option Int) (h : Value) : owner (.imap f) h = owner (.imap f') h := by
  cases h <;> rfl
theorem owner_pmap (f f' : Int → Int → Option Int) (h : Value) : owner (.pmap f) h = owner (.pmap f') h := by
  cases h <;> rfl
theorem lentCs_nil : ∀ (l l' : List Cell), cellsEq [] σ l l' → ∀ j ∈ lentCs l l', False
  | [], [], _, j, hj => by simp [lentCs] at hj
  | c :: l, c' :: l', h, j, hj => by
    obtain ⟨h1, h2⟩ := h
    rcases List.mem_append.1 hj with hj | hj
    · unfold lentC at hj
      split at hj
      · unfold cellEq at h1
        exact h1.2.elim
      · unfold cellEq at h1
        exact h1.elim
      · simp at hj
    · exact lentCs_nil l l' h2 j hj
  | [], _ :: _, h, _, _ => h.elim
  | _ :: _, [], h, _, _ => h.elim
theorem blkEq_rel (hw : WRep F hs B w) (hO : ∀ x, O' x → Osum F hs B x) (hσ : ∀ i j h, σ[i]? = some j → hs j = some h → hc i = some h)
    (x y : Blk) (h : blkEq σ x y) {u : Value} (hu : BlkRel (Osum F hs B) w hs y u) : BlkRel O' w hc x u ∧ (∀ z, owner x u = some z → owner y u = some z) := by
  have hmono : ∀ (c : Cell) (u : Value), Rel (Osum F hs B) w c noNames u → Rel O' w c noNames u := fun c u h =>
    Rel.mono (Nat.le_refl _) (fun _ _ _ => rfl) (fun x h => .inl (hO x h)) _ _ _ _ (fun _ _ h => h) h
  unfold blkEq at h
  split at h
  · rename_i ty l ty' l'
    obtain ⟨rfl, h⟩ := h
    obtain ⟨h1, h2⟩ := cellsEq_rel (bs := []) hw hO hσ l l' (fun j hj => (lentCs_nil l l' h j hj).elim) h
    obtain ⟨x, cs, h3, h4, h5, h6⟩ := hu
    exact ⟨⟨x, cs, h3, h4, by rw [h5, h1], fun i c v hc hv => h2 i c v hc fun c' hc' => h6 i c' v hc' hv⟩, fun z hz => by rw [owner_row ty ty l' l]; exact hz⟩
  · rename_i ty k n g ty' k' n' g'
    obtain ⟨rfl, rfl, rfl, hg⟩ := h
    refine ⟨?_, fun z hz => by rw [owner_slc ty ty k k n n g' g]; exact hz⟩
    rcases hu with hu | ⟨x, cap, cs, h3, h4, h5, h6, h7, h8⟩
    · exact .inl hu
    · exact .inr ⟨x, cap, cs, h3, h4, h5, h6, h7, fun i hi t ht v hv => by rw [hg i hi t ht]; exact hmono _ _ (h8 i hi t ht v hv)⟩
  · rename_i k n g k' n' g'
    obtain ⟨rfl, rfl, hg⟩ := h
    refine ⟨?_, fun z hz => hz⟩
    obtain ⟨a, cap, h1, h2, h3, h4, h5⟩ := hu
    refine ⟨a, cap, h1, h2, h3, h4, fun hn => ?_⟩
    obtain ⟨b, off, h6, h7, h8, h9⟩ := h5 hn
    refine ⟨b, off, h6, fun h => h7 (hO b h), h8, fun i hi t ht => ?_⟩
    obtain ⟨x, h10, h11⟩ := h9 i hi t ht
    exact ⟨x, h10, by rw [hg i hi t ht]; exact hmono _ _ h11⟩
  · rename_i f f'
    obtain ⟨r, es, clk, h1, h2, h3, h4⟩ := hu
    exact ⟨⟨r, es, clk, h1, h2, h3, fun a => by rw [h a]; exact h4 a⟩, fun z hz => by rw [owner_imap f' f]; exact hz⟩
  · rename_i f f'
    obtain ⟨r, es, clk, h1, h2, h3, h4⟩ := hu
    exact ⟨⟨r, es, clk, h1, h2, h3, fun a b => by rw [h a b]; exact h4 a b⟩, fun z hz => by rw [owner_pmap f' f]; exact hz⟩
  · exact ⟨trivial, fun z hz => by simp [owner] at hz⟩
  · exact h.elim
end
end
end Go.Eng
namespace Go.Eng
open Go
section
variable {O : Nat → Prop} {w : World} {hc hs : Names} {σ : List Nat} {nx : Nat}
/-- The turned cell. -/
def cellR (σ : List Nat) (nx : Nat) : Cell → Cell
  | .ptr j o => .ptr (ren σ nx j) o
  | .pix a b c d => .pix (ren σ nx a) b c d
  | .pxs a b c d e => .pxs (ren σ nx a) b c d e
  | .pos a b c d => .pos (ren σ nx a) b c d
  | .osl j => .osl (ren σ nx j)
  | .psl a b c d => .psl (ren σ nx a) b c d
  | .mp j => .mp (ren σ nx j)
  | .fn f l => .fn f (l.map (capRen σ nx))
  | .bfn f l => .bfn f (l.map (capRen σ nx))
  | c => c
theorem cellRen_is (c : Cell) (k : Cell → Prop) (h : cellRen σ nx c k) : k (cellR σ nx c) := by
  unfold cellRen at h
  have h := cellK_spec _ _ h
  cases c <;> simp only [nmK] at h <;> first
    | exact h
    | exact litK_spec _ _ _ _ h
theorem cellR_rel (hn : ∀ j h, hc j = some h → hs (ren σ nx j) = some h) (c : Cell) {u : Value} (h : Rel O w c hc u) : Rel O w (cellR σ nx c) hs u := by
  cases c with
  | v x => exact h
  | any => exact h
  | bq => exact h
  | ro n k t g => exact h
  | pro k g => exact h
  | ptr j o => obtain ⟨b, h1, h2⟩ := h; exact ⟨b, hn _ _ h1, h2⟩
  | pix a b c d => obtain ⟨x, h1, h2⟩ := h; exact ⟨x, hn _ _ h1, h2⟩
  | pxs a b c d e => obtain ⟨x, h1, h2⟩ := h; exact ⟨x, hn _ _ h1, h2⟩
  | pos a b c d => obtain ⟨x, n, cap, h1, h2⟩ := h; exact ⟨x, n, cap, hn _ _ h1, h2⟩
  | psl a b c d => obtain ⟨x, cap, h1, h2⟩ := h; exact ⟨x, cap, hn _ _ h1, h2⟩
  | osl j => exact ⟨hn _ _ h.1, h.2⟩
  | mp j => exact ⟨hn _ _ h.1, h.2⟩
  | fn f l =>
    obtain ⟨arr, h1, h2, h3⟩ := h
    refine ⟨arr, h1, by simp [h2], fun i c x hc' hx => ?_⟩
    simp only [List.getElem?_map, Option.map_eq_some_iff] at hc'
    obtain ⟨c0, h4, rfl⟩ := hc'
    have h5 := h3 i c0 x h4 hx
    cases c0 with
    | v y => exact h5
    | ptr j off => obtain ⟨b, h6, h7⟩ := h5; exact ⟨b, hn _ _ h6, h7⟩
  | bfn f l =>
    obtain ⟨arr, h1, h2, h3⟩ := h
    refine ⟨arr, h1, by simp [h2], fun i c x hc' hx => ?_⟩
    simp only [List.getElem?_map, Option.map_eq_some_iff] at hc'
    obtain ⟨c0, h4, rfl⟩ := hc'
    have h5 := h3 i c0 x h4 hx
    cases c0 with
    | v y => exact h5
    | ptr j off => obtain ⟨b, h6, h7⟩ := h5; exact ⟨b, hn _ _ h6, h7⟩
theorem cellsRen_is : ∀ (l : List Cell) (k : List Cell → Prop), cellsRen σ nx l k → k (l.map (cellR σ nx))
  | [], _, h => h
  | c :: l, k, h => cellsRen_is l _ (cellRen_is c _ h)
def svR (σ : List Nat) (nx : Nat) : Sv → Sv
  | .c x => .c (cellR σ nx x)
  | .agg l => .agg (l.map (cellR σ nx))
theorem svRen_is (x : Sv) (k : Sv → Prop) (h : svRen σ nx x k) : k (svR σ nx x) := by
  cases x with
  | c x => exact cellRen_is x (fun c => k (.c c)) h
  | agg l => exact cellsRen_is l (fun l => k (.agg l)) h
theorem svR_rel (hn : ∀ j h, hc j = some h → hs (ren σ nx j) = some h) (x : Sv) {u : Value} (h : SvRel O w x hc u) : SvRel O w (svR σ nx x) hs u := by
  cases x with
  | c x => exact cellR_rel hn x h
  | agg l =>
    obtain ⟨cs, h1, h2, h3⟩ := h
    refine ⟨cs, h1, by simp [h2], fun i c v hc' hv => ?_⟩
    simp only [List.getElem?_map, Option.map_eq_some_iff] at hc'
    obtain ⟨c0, h4, rfl⟩ := hc'
    exact cellR_rel hn c0 (h3 i c0 v h4 hv)
theorem svsRen_is : ∀ (l : List Sv) (k : List Sv → Prop), svsRen σ nx l k → k (l.map (svR σ nx))
  | [], _, h => h
  | c :: l, k, h => svsRen_is l _ (svRen_is c _ h)
def rvR (σ : List Nat) (nx : Nat) : RV → RV
  | .s x => .s (svR σ nx x)
  | .tup l => .tup (l.map (svR σ nx))
  | .un => .un
  | .any => .any
theorem rvRen_is (x : RV) (k : RV → Prop) (h : rvRen σ nx x k) : k (rvR σ nx x) := by
  cases x with
  | s x => exact svRen_is x (fun c => k (.s c)) h
  | tup l => exact svsRen_is l (fun l => k (.tup l)) h
  | un => exact h
  | any => exact h
theorem rvR_rel (hn : ∀ j h, hc j = some h → hs (ren σ nx j) = some h) (x : RV) {u : Value} (h : RVRel O w x hc u) : RVRel O w (rvR σ nx x) hs u := by
  cases x with
  | s x => exact svR_rel hn x h
  | un => exact h
  | any => trivial
  | tup l =>
    obtain ⟨cs, h1, h2, h3⟩ := h
    refine ⟨cs, h1, by simp [h2], fun i c v hc' hv => ?_⟩
    simp only [List.getElem?_map, Option.map_eq_some_iff] at hc'
    obtain ⟨c0, h4, rfl⟩ := hc'
    exact svR_rel hn c0 (h3 i c0 v h4 hv)
def blkR (σ : List Nat) (nx : Nat) : Blk → Blk
  | .row ty l => .row ty (l.map (cellR σ nx))
  | b => b
theorem blkRen_is (x : Blk) (k : Blk → Prop) (h : blkRen σ nx x k) : k (blkR σ nx x) := by
  cases x with
  | row ty l => exact cellsRen_is l (fun l => k (.row ty l)) h
  | _ => exact h
theorem blkR_rel (hn : ∀ j h, hc j = some h → hs (ren σ nx j) = some h) (x : Blk) {u : Value} (h : BlkRel O w hc x u) : BlkRel O w hs (blkR σ nx x) u := by
  cases x with
  | row ty l =>
    obtain ⟨x, cs, h1, h2, h3, h4⟩ := h
    refine ⟨x, cs, h1, h2, by simp [h3], fun i c v hc' hv => ?_⟩
    simp only [List.getElem?_map, Option.map_eq_some_iff] at hc'
    obtain ⟨c0, h5, rfl⟩ := hc'
    exact cellR_rel hn c0 (h4 i c0 v h5 hv)
  | _ => exact h
theorem owner_blkR (x : Blk) (u : Value) : owner (blkR σ nx x) u = owner x u := by
  cases x with
  | row ty l => exact owner_row ty ty _ l u
  | _ => rfl
theorem blksRen_is : ∀ (l : List (Nat × Blk)) (k : List (Nat × Blk) → Prop), blksRen σ nx l k → k (l.map fun p => (ren σ nx p.1, blkR σ nx p.2))
  | [], _, h => h
  | (j, b) :: l, k, h => by
    unfold blksRen at h
    have h1 := litK_spec _ _ _ _ h
    exact blksRen_is l _ (blkRen_is b _ h1)
end
def froz : Blk → Blk
  | .slc _ q n g => .fsl q n g
  | .row _ _ => .gone
  | b => b
theorem freezeK_spec {bs : List (Nat × Blk)} : ∀ (l : List Nat) (k : List (Nat × Blk) → List (Nat × Blk) → Prop), freezeK bs l k →
    ∃ lent : List (Nat × Blk), k lent (lent.map fun p => (p.1, froz p.2)) ∧ lent.map (·.1) = l ∧ ∀ p ∈ lent, look bs p.1 = some p.2 ∧ ((∃ ty q n g, p.2 = .slc ty q n g) ∨ (∃ q n g, p.2 = .fsl q n g) ∨ ∃ ty l, p.2 = .row ty l)
  | [], k, h => ⟨[], h, rfl, by simp⟩
  | j :: l, k, h => by
    unfold freezeK at h
    obtain ⟨b, hb, h⟩ := lookK_spec _ _ _ h
    split at h
    · rename_i ty q n g
      obtain ⟨lent, h1, h2, h3⟩ := freezeK_spec l _ h
      refine ⟨(j, .slc ty q n g) :: lent, h1, by simp [h2], fun p hp => ?_⟩
      rcases List.mem_cons.1 hp with rfl | hp
      · exact ⟨hb, .inl ⟨_, _, _, _, rfl⟩⟩
      · exact h3 p hp
    · rename_i q n g
      obtain ⟨lent, h1, h2, h3⟩ := freezeK_spec l _ h
      refine ⟨(j, .fsl q n g) :: lent, h1, by simp [h2], fun p hp => ?_⟩
      rcases List.mem_cons.1 hp with rfl | hp
      · exact ⟨hb, .inr (.inl ⟨_, _, _, rfl⟩)⟩
      · exact h3 p hp
    · rename_i ty r
      obtain ⟨lent, h1, h2, h3⟩ := freezeK_spec l _ h
      refine ⟨(j, .row ty r) :: lent, h1, by simp [h2], fun p hp => ?_⟩
      rcases List.mem_cons.1 hp with rfl | hp
      · exact ⟨hb, .inr (.inr ⟨_, _, rfl⟩)⟩
      · exact h3 p hp
    · exact h.elim
theorem nodupB_spec : ∀ (l : List Nat), nodupB l = true → ∀ (i i' j : Nat), l[i]? = some j → l[i']? = some j → i = i'
  | [], _, i, _, _, h, _ => by simp at h
  | x :: l, h, i, i', j, h1, h2 => by
    simp only [nodupB, Bool.and_eq_true, Bool.not_eq_true'] at h
    obtain ⟨h3, h4⟩ := h
    have hx : ∀ m : Nat, l[m]? = some x → False := by
      intro m hm
      have : x ∈ l := List.mem_of_getElem? hm
      simp [this] at h3
    cases i with
    | zero =>
      cases i' with
      | zero => rfl
      | succ m => simp at h1 h2; subst h1; exact (hx m h2).elim
    | succ n =>
      cases i' with
      | zero => simp at h1 h2; subst h2; exact (hx n h1).elim
      | succ m => simp at h1 h2; rw [nodupB_spec l h4 n m j h1 h2]
theorem look_mem : ∀ (l : List (Nat × Blk)) (j : Nat) (b : Blk), look l j = some b → (j, b) ∈ l
  | [], _, _, h => by simp [look] at h
  | (i, c) :: l, j, b, h => by
    simp only [look] at h
    split at h
    · rename_i e; cases h; subst e; simp
    · exact List.mem_cons_of_mem _ (look_mem l j b h)
theorem look_of_mem {l : List (Nat × Blk)} {j : Nat} {b : Blk} (h : (j, b) ∈ l) : ∃ c, look l j = some c := by
  induction l with
  | nil => simp at h
  | cons x l ih =>
    obtain ⟨i, c⟩ := x
    simp only [look]
    split
    · exact ⟨c, rfl⟩
    · rename_i e
      rcases List.mem_cons.1 h with h | h
      · cases h; exact (e rfl).elim
      · exact ih h
theorem blksAt_spec {bs : List (Nat × Blk)} : ∀ (σ : List Nat) (p : Nat × Blk), p ∈ blksAt bs σ → p.1 ∈ σ ∧ look bs p.1 = some p.2
  | [], p, h => by simp [blksAt] at h
  | j :: l, p, h => by
    unfold blksAt at h
    split at h
    · rename_i b hb
      rcases List.mem_cons.1 h with rfl | h
      · exact ⟨by simp, hb⟩
      · have := blksAt_spec l p h; exact ⟨List.mem_cons_of_mem _ this.1, this.2⟩
    · have := blksAt_spec l p h; exact ⟨List.mem_cons_of_mem _ this.1, this.2⟩
theorem blksAt_mem {bs : List (Nat × Blk)} : ∀ (σ : List Nat) (j : Nat) (b : Blk), j ∈ σ → look bs j = some b → (j, b) ∈ blksAt bs σ
  | [], j, b, h, _ => by simp at h
  | i :: l, j, b, h, hb => by
    unfold blksAt
    rcases List.mem_cons.1 h with rfl | h
    · rw [hb]; simp
    · have := blksAt_mem l j b h hb
      split
      · exact List.mem_cons_of_mem _ this
      · exact this
end Go.Eng
namespace Go.Eng
open Go
theorem plain_cell {O O' : Nat → Prop} {w w' : World} {hs hs' : Names} {c : Cell} {u : Value} (hp : c.plain = true) (h : Rel O w c hs u) : Rel O' w' c hs' u := by
  cases c <;> first | exact h | cases hp
theorem plain_sv {O O' : Nat → Prop} {w w' : World} {hs hs' : Names} {x : Sv} {u : Value} (hp : x.plain = true) (h : SvRel O w x hs u) : SvRel O' w' x hs' u := by
  cases x with
  | c x => exact plain_cell hp h
  | agg l =>
    obtain ⟨cs, h1, h2, h3⟩ := h
    refine ⟨cs, h1, h2, fun i c v hc hv => plain_cell ?_ (h3 i c v hc hv)⟩
    exact List.all_eq_true.1 hp c (List.mem_of_getElem? hc)
theorem plain_rv {O O' : Nat → Prop} {w w' : World} {hs hs' : Names} {x : RV} {u : Value} (hp : x.plain = true) (h : RVRel O w x hs u) : RVRel O' w' x hs' u := by
  cases x with
  | s x => exact plain_sv hp h
  | un => exact h
  | any => trivial
  | tup l =>
    obtain ⟨cs, h1, h2, h3⟩ := h
    refine ⟨cs, h1, h2, fun i c v hc hv => plain_sv ?_ (h3 i c v hc hv)⟩
    exact List.all_eq_true.1 hp c (List.mem_of_getElem? hc)
theorem blksEq_spec {bs : List (Nat × Blk)} {σ : List Nat} : ∀ (l : List (Nat × Blk)), blksEq bs σ l → ∀ p ∈ l, ∃ j b', σ[p.1]? = some j ∧ look bs j = some b' ∧ blkEq σ p.2 b'
  | [], _, p, hp => by simp at hp
  | (i, b) :: l, h, p, hp => by
    obtain ⟨h1, h2⟩ := h
    rcases List.mem_cons.1 hp with rfl | hp
    · obtain ⟨j, h3, h4⟩ := nthK_spec _ _ _ h1
      obtain ⟨b', h5, h6⟩ := lookK_spec _ _ _ h4
      exact ⟨j, b', h3, h5, h6⟩
    · exact blksEq_spec l h2 p hp
theorem look_map_inj (f : Nat → Nat) (g : Blk → Blk) : ∀ (l : List (Nat × Blk)), (∀ p ∈ l, ∀ q ∈ l, f p.1 = f q.1 → p.1 = q.1) → ∀ j b, look l j = some b → look (l.map fun p => (f p.1, g p.2)) (f j) = some (g b)
  | [], _, j, b, h => by simp [look] at h
  | (i, c) :: l, hinj, j, b, h => by
    simp only [List.map_cons, look] at h ⊢
    by_cases e : i = j
    · subst e; rw [if_pos rfl] at h ⊢; cases h; rfl
    · rw [if_neg e] at h
      have hm := look_mem l j b h
      rw [if_neg (fun e2 => e (hinj (i, c) (by simp) (j, b) (by simp [hm]) e2))]
      exact look_map_inj f g l (fun p hp q hq => hinj p (by simp [hp]) q (by simp [hq])) j b h
theorem look_map_some (f : Nat → Nat) (g : Blk → Blk) : ∀ (l : List (Nat × Blk)) k b', (∀ p ∈ l, ∀ q ∈ l, f p.1 = f q.1 → p.1 = q.1) → look (l.map fun p => (f p.1, g p.2)) k = some b' → ∃ j b, look l j = some b ∧ f j = k ∧ g b = b'
  | [], k, b', _, h => by simp [look] at h
  | (i, c) :: l, k, b', hinj, h => by
    simp only [List.map_cons, look] at h
    by_cases e : f i = k
    · rw [if_pos e] at h; cases h
      exact ⟨i, c, by simp [look], e, rfl⟩
    · rw [if_neg e] at h
      obtain ⟨j, b, h1, h2, h3⟩ := look_map_some f g l k b' (fun p hp q hq => hinj p (by simp [hp]) q (by simp [hq])) h
      refine ⟨j, b, ?_, h2, h3⟩
      simp only [look]
      rw [if_neg (fun e2 => e (by rw [e2]; exact h2))]
      exact h1
section
variable {P : Program} {o : Oper} {regs : List RV} {bs : List (Nat × Blk)} {nx : Nat}
/-- The call, in a world where the caller's part is B. -/
theorem call_view {fid : FuncId} {S : FSpec} (hM : Meets P fid S) (γ : S.G) {σ : List Nat} (hσl : σ.length = (S.blks γ).length) {vs : List RV}
    (hargs : rvsEq bs σ (S.args γ) vs) (hblks : blksEq bs σ (S.blks γ)) (hnd : nodupB σ = true) {lent : List (Nat × Blk)} (hlent : lent.map (·.1) = lentRs (S.args γ) vs)
    (hlb : ∀ p ∈ lent, look bs p.1 = some p.2) (hdis : disjB σ (lent.map (·.1)) = true)
    {F : Nat → Prop} {hs : Names} {w : World} {vals : Array Value} (hw : WRep F hs (look (lent ++ blksAt bs σ)) w)
    (hvals : ArgsRel (Osum F hs (look (lent ++ blksAt bs σ))) w hs vs vals) :
    (∀ x, Osum F (fun i => if i < σ.length then hs (σ.getD i 0) else none) (look (S.blks γ)) x → Osum F hs (look (lent ++ blksAt bs σ)) x) ∧
    (∀ x, own (fun i => if i < σ.length then hs (σ.getD i 0) else none) (look (S.blks γ)) x → own hs (look (lent ++ blksAt bs σ)) x) ∧
    (∀ p ∈ lent, Lent bs hs (look (lent ++ blksAt bs σ)) (Osum F (fun i => if i < σ.length then hs (σ.getD i 0) else none) (look (S.blks γ))) p.1) ∧
    (∀ i, i < σ.length → ∃ h, hs (σ.getD i 0) = some h) ∧
    (∀ j, (S.blks γ).length ≤ j → (fun i => if i < σ.length then hs (σ.getD i 0) else none) j = none) ∧ ArgsRel (Osum F (fun i => if i < σ.length then hs (σ.getD i 0) else none) (look (S.blks γ))) w (fun i => if i < σ.length then hs (σ.getD i 0) else none) (S.args γ) vals ∧ WRep F (fun i => if i < σ.length then hs (σ.getD i 0) else none) (look (S.blks γ)) w := by
  have hBlook : ∀ j b, look (lent ++ blksAt bs σ) j = some b → look bs j = some b := by
    intro j b h
    have hm := look_mem _ j b h
    rcases List.mem_append.1 hm with hm | hm
    · exact hlb _ hm
    · exact (blksAt_spec σ _ hm).2
  have hBσ : ∀ (i j : Nat) (b : Blk), σ[i]? = some j → look bs j = some b → look (lent ++ blksAt bs σ) j = some b := by
    intro i j b hi hb
    have hm := blksAt_mem σ j b (List.mem_of_getElem? hi) hb
    obtain ⟨c, hc⟩ := look_of_mem (List.mem_append.2 (.inr hm) : (j, b) ∈ lent ++ blksAt bs σ)
    have := hBlook j c hc
    rw [hb] at this; cases this
    exact hc
  have hσget : ∀ (i j : Nat), σ[i]? = some j → i < σ.length ∧ σ.getD i 0 = j := fun i j h => ⟨(List.getElem?_eq_some_iff.1 h).1, by rw [List.getD_eq_getElem?_getD, h]; rfl⟩
  have hσ : ∀ (i j : Nat) (h : Value), σ[i]? = some j → hs j = some h → (fun i => if i < σ.length then hs (σ.getD i 0) else none) i = some h := by
    intro i j h h1 h2
    obtain ⟨h3, h4⟩ := hσget i j h1
    simp only [h3, if_true, h4, h2]
  have hblk : ∀ i b, look (S.blks γ) i = some b → ∃ j b' h, σ[i]? = some j ∧ look (lent ++ blksAt bs σ) j = some b' ∧ hs j = some h ∧ blkEq σ b b' ∧ BlkRel (Osum F hs (look (lent ++ blksAt bs σ))) w hs b' h := by
    intro i b hb
    obtain ⟨j, b', h1, h2, h3⟩ := blksEq_spec _ hblks (i, b) (look_mem _ i b hb)
    have h4 := hBσ i j b' h1 h2
    obtain ⟨h, hh, hr⟩ := hw.blk j b' h4
    exact ⟨j, b', h, h1, h4, hh, h3, hr⟩
  have hown : ∀ x, own (fun i => if i < σ.length then hs (σ.getD i 0) else none) (look (S.blks γ)) x → ∃ i j b' h, σ[i]? = some j ∧ look (lent ++ blksAt bs σ) j = some b' ∧ hs j = some h ∧ owner b' h = some x ∧ ∃ b, look (S.blks γ) i = some b := by
    rintro x ⟨i, b, u, hb, hu, hx⟩
    obtain ⟨j, b', h, h1, h2, h3, h4, h5⟩ := hblk i b hb
    have hu2 : some h = some u := (hσ i j h h1 h3).symm.trans hu
    rw [← Option.some.inj hu2] at hx
    have h6 : ∀ z, owner b h = some z → owner b' h = some z := by
      exact (blkEq_rel (O' := Osum F hs (look (lent ++ blksAt bs σ))) hw (fun _ h => h) hσ b b' h4 h5).2
    exact ⟨i, j, b', h, h1, h2, h3, h6 x hx, b, hb⟩
  have hO1 : ∀ x, own (fun i => if i < σ.length then hs (σ.getD i 0) else none) (look (S.blks γ)) x → own hs (look (lent ++ blksAt bs σ)) x := by
    intro x hx
    obtain ⟨i, j, b', h, _, h2, h3, h4, _⟩ := hown x hx
    exact ⟨j, b', h, h2, h3, h4⟩
  have hO : ∀ x, Osum F (fun i => if i < σ.length then hs (σ.getD i 0) else none) (look (S.blks γ)) x → Osum F hs (look (lent ++ blksAt bs σ)) x := fun x hx => hx.imp id (hO1 x)
  have hLent : ∀ p ∈ lent, Lent bs hs (look (lent ++ blksAt bs σ)) (Osum F (fun i => if i < σ.length then hs (σ.getD i 0) else none) (look (S.blks γ))) p.1 := by
    intro p hp
    have hb := hlb p hp
    obtain ⟨c, hc⟩ := look_of_mem (List.mem_append.2 (.inl hp) : (p.1, p.2) ∈ lent ++ blksAt bs σ)
    have := hBlook _ c hc
    rw [hb] at this; cases this
    refine ⟨p.2, hb, hc, fun x h hh hx hO' => ?_⟩
    rcases hO' with hF | hO'
    · exact hw.apart x hF ⟨p.1, p.2, h, hc, hh, hx⟩
    · obtain ⟨i, j, b', h', h1, h2, h3, h4, _⟩ := hown x hO'
      have e := hw.sep _ _ _ _ _ _ x hc h2 hh h3 hx h4
      have hj : j ∈ σ := List.mem_of_getElem? h1
      have hd := List.all_eq_true.1 hdis j hj
      simp only [Bool.not_eq_true', List.contains_eq_mem, decide_eq_false_iff_not] at hd
      exact hd (by rw [← e]; exact List.mem_map.2 ⟨p, hp, rfl⟩)
  have hfull : ∀ i, i < σ.length → ∃ h, hs (σ.getD i 0) = some h := by
    intro i hi
    obtain ⟨b, hb⟩ := hM.full γ i (by omega)
    obtain ⟨j, b', h, h1, _, h3, _⟩ := hblk i b hb
    rw [(hσget i j h1).2]
    exact ⟨h, h3⟩
  have hlentR : ∀ j ∈ lentRs (S.args γ) vs, Lent bs hs (look (lent ++ blksAt bs σ)) (Osum F (fun i => if i < σ.length then hs (σ.getD i 0) else none) (look (S.blks γ))) j := by
    intro j hj
    rw [← hlent] at hj
    obtain ⟨p, hp, rfl⟩ := List.mem_map.1 hj
    exact hLent p hp
  refine ⟨hO, hO1, hLent, hfull, fun j hj => ?_, ?_, ⟨?_, ?_, hw.lt, fun x hx h => hw.apart x hx (hO1 x h)⟩⟩
  · have : ¬ j < σ.length := by omega
    simp only [this, if_false]
  · obtain ⟨h1, h2⟩ := rvsEq_rel hw hO hσ (S.args γ) vs hlentR hargs
    refine ⟨by rw [hvals.1, h1], fun i a v ha hv => h2 i a v ha fun c' hc' => hvals.2 i c' v hc' hv⟩
  · intro i b hb
    obtain ⟨j, b', h, h1, h2, h3, h4, h5⟩ := hblk i b hb
    exact ⟨h, hσ i j h h1 h3, (blkEq_rel hw hO hσ b b' h4 h5).1⟩
  · intro i i' bi bj hi hi' x hbi hbj hhi hhj hoi hoj
    obtain ⟨j, b', h, h1, h2, h3, h4, h5⟩ := hblk i bi hbi
    obtain ⟨j', b'', h', h1', h2', h3', h4', h5'⟩ := hblk i' bj hbj
    have hu2 : some h = some hi := (hσ i j h h1 h3).symm.trans hhi
    have hu2' : some h' = some hi' := (hσ i' j' h' h1' h3').symm.trans hhj
    rw [← Option.some.inj hu2] at hoi
    rw [← Option.some.inj hu2'] at hoj
    have e1 := (blkEq_rel (O' := Osum F hs (look (lent ++ blksAt bs σ))) hw (fun _ h => h) hσ bi b' h4 h5).2 x hoi
    have e2 := (blkEq_rel (O' := Osum F hs (look (lent ++ blksAt bs σ))) hw (fun _ h => h) hσ bj b'' h4' h5').2 x hoj
    have := hw.sep j j' b' b'' h h' x h2 h2' h3 h3' e1 e2
    subst this
    exact nodupB_spec σ hnd i i' j h1 h1'
/-- The call, in a world where the caller's part is B. -/
theorem call_core {fid : FuncId} {S : FSpec} (hM : Meets P fid S) (γ : S.G) (hy : S.yields γ = none) (hpre : S.pre γ) {σ : List Nat} (hσl : σ.length = (S.blks γ).length) {vs : List RV}
    (hargs : rvsEq bs σ (S.args γ) vs) (hblks : blksEq bs σ (S.blks γ)) (hnd : nodupB σ = true) {lent : List (Nat × Blk)} (hlent : lent.map (·.1) = lentRs (S.args γ) vs)
    (hlb : ∀ p ∈ lent, look bs p.1 = some p.2) (hdis : disjB σ (lent.map (·.1)) = true)
    {F : Nat → Prop} {hs : Names} {w : World} {vals : Array Value} (hw : WRep F hs (look (lent ++ blksAt bs σ)) w)
    (hvals : ArgsRel (Osum F hs (look (lent ++ blksAt bs σ))) w hs vs vals) :
    (∀ x, Osum F (fun i => if i < σ.length then hs (σ.getD i 0) else none) (look (S.blks γ)) x → Osum F hs (look (lent ++ blksAt bs σ)) x) ∧
    (∀ x, own (fun i => if i < σ.length then hs (σ.getD i 0) else none) (look (S.blks γ)) x → own hs (look (lent ++ blksAt bs σ)) x) ∧
    (∀ p ∈ lent, Lent bs hs (look (lent ++ blksAt bs σ)) (Osum F (fun i => if i < σ.length then hs (σ.getD i 0) else none) (look (S.blks γ))) p.1) ∧
    (∀ i, i < σ.length → ∃ h, hs (σ.getD i 0) = some h) ∧
    Calls P fid vals w fun e w' => ∃ v, EndsAs (S.panics γ) e v ∧ Post F (fun i => if i < σ.length then hs (σ.getD i 0) else none) (look (S.blks γ)) w (S.res γ) (look (S.post γ)) (S.blks γ).length (max (S.blks γ).length (S.post γ).length) v w' := by
  obtain ⟨h1, h2, h3, h4, h5, h6, h7⟩ := call_view hM γ hσl hargs hblks hnd hlent hlb hdis hw hvals
  exact ⟨h1, h2, h3, h4, hM.run γ hy hpre F _ w vals h5 h6 h7⟩
end
end Go.Eng
namespace Go.Eng
open Go
section
variable {P : Program} {o : Oper} {regs : List RV} {bs : List (Nat × Blk)} {nx : Nat}
theorem froz_fsl {b : Blk} (h : (∃ ty q n g, b = .slc ty q n g) ∨ (∃ q n g, b = .fsl q n g) ∨ ∃ ty l, b = .row ty l) : (∃ q n g, froz b = .fsl q n g ∧ ((∃ ty, b = .slc ty q n g) ∨ b = .fsl q n g)) ∨ froz b = .gone := by
  rcases h with ⟨ty, q, n, g, rfl⟩ | ⟨q, n, g, rfl⟩ | ⟨ty, l, rfl⟩
  · exact .inl ⟨q, n, g, rfl, .inl ⟨ty, rfl⟩⟩
  · exact .inl ⟨q, n, g, rfl, .inr rfl⟩
  · exact .inr rfl
theorem froz_none {b : Blk} (h : (∃ ty q n g, b = .slc ty q n g) ∨ (∃ q n g, b = .fsl q n g) ∨ ∃ ty l, b = .row ty l) (u : Value) : owner (froz b) u = none := by
  rcases froz_fsl h with ⟨q, n, g, e, _⟩ | e
  · rw [e]; rfl
  · rw [e]; rfl
theorem look_froz (lent : List (Nat × Blk)) (k : Nat) : look (lent.map fun p => (p.1, froz p.2)) k = (look lent k).map froz := by
  induction lent with
  | nil => rfl
  | cons p l ih =>
    simp only [List.map_cons, look]
    split
    · rfl
    · exact ih
theorem call_post {fid : FuncId} {S : FSpec} (hM : Meets P fid S) (γ : S.G) (hy : S.yields γ = none) (hpre : S.pre γ) {σ : List Nat} (hσl : σ.length = (S.blks γ).length) {vs : List RV}
    (hargs : rvsEq bs σ (S.args γ) vs) (hblks : blksEq bs σ (S.blks γ)) (hnd : nodupB σ = true) {lent : List (Nat × Blk)} (hlent : lent.map (·.1) = lentRs (S.args γ) vs)
    (hlb : ∀ p ∈ lent, look bs p.1 = some p.2 ∧ ((∃ ty q n g, p.2 = .slc ty q n g) ∨ (∃ q n g, p.2 = .fsl q n g) ∨ ∃ ty l, p.2 = .row ty l)) (hdis : disjB σ (lent.map (·.1)) = true)
    {F : Nat → Prop} {hs : Names} {w : World} {vals : Array Value} (hw : WRep F hs (look (lent ++ blksAt bs σ)) w) (hf : ∀ j, nx ≤ j → j < nx + ((S.post γ).length - σ.length) → hs j = none) (hbn : ∀ j b, look bs j = some b → j < nx)
    (hvals : ArgsRel (Osum F hs (look (lent ++ blksAt bs σ))) w hs vs vals) :
    Calls P fid vals w fun e w' => ∃ v, EndsAs (S.panics γ) e v ∧
      Post F hs (look (lent ++ blksAt bs σ)) w (rvR σ nx (S.res γ)) (look ((lent.map fun p => (p.1, froz p.2)) ++ (S.post γ).map fun p => (ren σ nx p.1, blkR σ nx p.2)))
        nx (nx + ((S.post γ).length - σ.length)) v w' := by
  obtain ⟨hO, hO1, hLent, hfull, hcall⟩ := call_core hM γ hy hpre hσl hargs hblks hnd hlent (fun p hp => (hlb p hp).1) hdis hw hvals
  refine hcall.mono ?_
  rintro e w' ⟨v, he, hs', h1, h2, h3, h4, h5, h6⟩
  refine ⟨v, he, ?_⟩
  have hlt : ∀ i, i < σ.length → σ.getD i 0 < nx := by
    intro i hi
    obtain ⟨c, hc⟩ := hM.full γ i (by omega)
    obtain ⟨j, b', h8, h9, _⟩ := blksEq_spec _ hblks (i, c) (look_mem _ _ _ hc)
    rw [List.getD_eq_getElem?_getD, h8]
    exact hbn j b' h9
  have hext0 : ∀ i h, i < σ.length → hs (σ.getD i 0) = some h → hs' i = some h := by
    intro i h hi hh
    exact h3 i h (by simp only [hi, if_true]; exact hh)
  have hM' : max (S.blks γ).length (S.post γ).length = σ.length + ((S.post γ).length - σ.length) := by omega
  -- the caller's names behind the call
  have hn : ∀ j h, hs' j = some h → (fun k => if nx ≤ k ∧ k < nx + ((S.post γ).length - σ.length) then hs' (k - nx + σ.length) else hs k) (ren σ nx j) = some h := by
    intro j h hj
    unfold ren
    by_cases hjm : j < σ.length
    · have := hlt j hjm
      obtain ⟨h0, hh0⟩ := hfull j hjm
      have := hext0 j h0 hjm hh0
      rw [hj] at this; cases this
      simp only [hjm, if_true]
      rw [if_neg (by omega)]
      exact hh0
    · simp only [hjm, if_false]
      have hlt2 : j < σ.length + ((S.post γ).length - σ.length) := by
        rcases Nat.lt_or_ge j (σ.length + ((S.post γ).length - σ.length)) with h' | h'
        · exact h'
        · rw [h4 j (by rw [hM']; omega)] at hj
          simp only [hjm, if_false] at hj; cases hj
      rw [if_pos (by omega)]
      rw [show nx + (j - σ.length) - nx + σ.length = j by omega]
      exact hj
  have hrinj : ∀ i j, i < σ.length + ((S.post γ).length - σ.length) → j < σ.length + ((S.post γ).length - σ.length) → ren σ nx i = ren σ nx j → i = j := by
    intro i j hi hj he
    unfold ren at he
    by_cases him : i < σ.length
    · by_cases hjm : j < σ.length
      · simp only [him, hjm, if_true] at he
        refine nodupB_spec σ hnd i j (σ.getD i 0) ?_ ?_
        · rw [List.getD_eq_getElem?_getD, List.getElem?_eq_getElem him]; rfl
        · rw [he, List.getD_eq_getElem?_getD, List.getElem?_eq_getElem hjm]; rfl
      · simp only [him, hjm, if_true, if_false] at he
        have := hlt i him; omega
    · by_cases hjm : j < σ.length
      · simp only [him, hjm, if_true, if_false] at he
        have := hlt j hjm; omega
      · simp only [him, hjm, if_false] at he; omega
  have hqn : ∀ p ∈ S.post γ, p.1 < σ.length + ((S.post γ).length - σ.length) := by
    intro p hp
    obtain ⟨c, hc⟩ := look_of_mem (show (p.1, p.2) ∈ S.post γ from hp)
    have := hM.qn γ p.1 c hc
    omega
  have hpb : ∀ k b', look ((S.post γ).map fun p => (ren σ nx p.1, blkR σ nx p.2)) k = some b' → ∃ j b, look (S.post γ) j = some b ∧ ren σ nx j = k ∧ blkR σ nx b = b' :=
    fun k b' h => look_map_some (ren σ nx) (blkR σ nx) _ k b' (fun p hp q hq => hrinj _ _ (hqn p hp) (hqn q hq)) h
  have hpb' : ∀ j b, look (S.post γ) j = some b → look ((S.post γ).map fun p => (ren σ nx p.1, blkR σ nx p.2)) (ren σ nx j) = some (blkR σ nx b) :=
    fun j b h => look_map_inj (ren σ nx) (blkR σ nx) _ (fun p hp q hq => hrinj _ _ (hqn p hp) (hqn q hq)) j b h
  -- a lent name is none of the called function's
  have hlr : ∀ p ∈ lent, ∀ j, j < σ.length + ((S.post γ).length - σ.length) → p.1 ≠ ren σ nx j := by
    intro p hp j hj he
    have hp1 : p.1 < nx := by
      obtain ⟨b, hB, _⟩ := hLent p hp
      exact hbn _ _ hB
    unfold ren at he
    by_cases hjm : j < σ.length
    · simp only [hjm, if_true] at he
      have hmem : σ.getD j 0 ∈ σ := by
        rw [List.getD_eq_getElem?_getD, List.getElem?_eq_getElem hjm]; exact List.getElem_mem hjm
      have hd := List.all_eq_true.1 hdis _ hmem
      simp only [Bool.not_eq_true', List.contains_eq_mem, decide_eq_false_iff_not] at hd
      exact hd (by rw [← he]; exact List.mem_map.2 ⟨p, hp, rfl⟩)
    · simp only [hjm, if_false] at he; omega
  have hlook : ∀ k b', look ((lent.map fun p => (p.1, froz p.2)) ++ (S.post γ).map fun p => (ren σ nx p.1, blkR σ nx p.2)) k = some b' →
      (∃ b, look lent k = some b ∧ b' = froz b) ∨ (look lent k = none ∧ ∃ j b, look (S.post γ) j = some b ∧ ren σ nx j = k ∧ blkR σ nx b = b') := by
    intro k b' h
    rw [look_append, look_froz] at h
    cases hl : look lent k with
    | some b => rw [hl] at h; simp at h; exact .inl ⟨b, rfl, h.symm⟩
    | none => rw [hl] at h; simp at h; exact .inr ⟨rfl, hpb k b' h⟩
  have hlook2 : ∀ j b, look (S.post γ) j = some b → look ((lent.map fun p => (p.1, froz p.2)) ++ (S.post γ).map fun p => (ren σ nx p.1, blkR σ nx p.2)) (ren σ nx j) = some (blkR σ nx b) := by
    intro j b h
    rw [look_append, look_froz]
    have : look lent (ren σ nx j) = none := by
      cases hl : look lent (ren σ nx j) with
      | none => rfl
      | some c =>
        have hq := hM.qn γ j b h
        exact (hlr _ (look_mem _ _ _ hl) j (by omega) rfl).elim
    rw [this]
    simp [hpb' j b h]
  have hlentfsl : ∀ k b, look lent k = some b → (∃ q n g, froz b = .fsl q n g ∧ ((∃ ty, b = .slc ty q n g) ∨ b = .fsl q n g)) ∨ froz b = .gone := fun k b h => froz_fsl (hlb _ (look_mem _ _ _ h)).2
  have hlentno : ∀ k b u, look lent k = some b → owner (froz b) u = none := fun k b u h => froz_none (hlb _ (look_mem _ _ _ h)).2 u
  have hownE : ∀ x, own (fun k => if nx ≤ k ∧ k < nx + ((S.post γ).length - σ.length) then hs' (k - nx + σ.length) else hs k)
      (look ((lent.map fun p => (p.1, froz p.2)) ++ (S.post γ).map fun p => (ren σ nx p.1, blkR σ nx p.2))) x ↔ own hs' (look (S.post γ)) x := by
    intro x
    constructor
    · rintro ⟨k, b', u, hb, hu, hx⟩
      rcases hlook k b' hb with ⟨b, hl, rfl⟩ | ⟨_, j, b, hj, rfl, rfl⟩
      · rw [hlentno k b _ hl] at hx; cases hx
      · obtain ⟨u', hu', hr'⟩ := h2.blk j b hj
        have := hn j u' hu'
        have hu2 : some u' = some u := this.symm.trans hu
        rw [← Option.some.inj hu2, owner_blkR] at hx
        exact ⟨j, b, u', hj, hu', hx⟩
    · rintro ⟨j, b, u, hb, hu, hx⟩
      exact ⟨ren σ nx j, blkR σ nx b, u, hlook2 j b hb, hn j u hu, by rw [owner_blkR]; exact hx⟩
  have hOE : Osum F (fun k => if nx ≤ k ∧ k < nx + ((S.post γ).length - σ.length) then hs' (k - nx + σ.length) else hs k)
      (look ((lent.map fun p => (p.1, froz p.2)) ++ (S.post γ).map fun p => (ren σ nx p.1, blkR σ nx p.2))) = Osum F hs' (look (S.post γ)) := by
    funext x
    exact propext ⟨fun h => h.imp id (hownE x).1, fun h => h.imp id (hownE x).2⟩
  refine ⟨fun k => if nx ≤ k ∧ k < nx + ((S.post γ).length - σ.length) then hs' (k - nx + σ.length) else hs k, ?_, ⟨?_, ?_, ?_, ?_⟩, ?_, ?_, h5.mono (fun x _ hx => hO1 x hx), ?_⟩
  · rw [hOE]; exact rvR_rel hn _ h1
  · intro k b' hk
    rw [hOE]
    rcases hlook k b' hk with ⟨b, hl, rfl⟩ | ⟨_, j, b, hj, rfl, rfl⟩
    · have hmem := look_mem _ _ _ hl
      obtain ⟨c, hc1, hc2, hc3⟩ := hLent (k, b) hmem
      have hbc : b = c := by
        have := (hlb _ hmem).1
        simp only at this hc1
        rw [hc1] at this; exact (Option.some.inj this).symm
      subst hbc
      obtain ⟨h, hh, hr⟩ := hw.blk k b hc2
      have hkx : k < nx := hbn _ _ hc1
      refine ⟨h, by simp only [show ¬ (nx ≤ k ∧ k < nx + ((S.post γ).length - σ.length)) by omega, if_false]; exact hh, ?_⟩
      rcases hlentfsl k b hl with ⟨q, n, g, hfz, hbb⟩ | hfz
      case inr => rw [hfz]; trivial
      rw [hfz]
      -- what was lent reads as it did
      have hro : Rel (Osum F (fun i => if i < σ.length then hs (σ.getD i 0) else none) (look (S.blks γ))) w (.ro n q false g) noNames h := by
        refine cellEq_rel (bs := bs) (σ := []) (hc := noNames) (hs := hs) hw hO (fun i j h h1 => by simp at h1) (.ro n q false g) (.osl k) (fun j hj => ?_) ?_ ⟨hh, ?_⟩
        · simp only [lentC, List.mem_singleton] at hj
          subst hj
          exact ⟨b, hc1, hc2, hc3⟩
        · refine ⟨rfl, ?_⟩
          have key : ∀ (l : List (Nat × Blk)) (b : Blk) (K : Blk → Prop), look l k = some b → K b → lookK l k K := by
            intro l
            induction l with
            | nil => intro b K h; simp [look] at h
            | cons p l ih =>
              intro b K h hK
              obtain ⟨i, c⟩ := p
              simp only [look] at h
              unfold lookK
              by_cases e : i = k
              · subst e
                rw [if_pos rfl] at h; cases h
                rw [Nat.beq_refl]; exact hK
              · rw [if_neg e] at h
                rw [beq_false_of_ne e]
                exact ih b K h hK
          refine key bs b _ hc1 ?_
          rcases hbb with ⟨ty, rfl⟩ | rfl
          · exact ⟨rfl, rfl, fun _ _ _ _ => rfl⟩
          · exact ⟨rfl, rfl, fun _ _ _ _ => rfl⟩
        · rcases hbb with ⟨ty, rfl⟩ | rfl
          · rcases hr with ⟨rfl, _⟩ | ⟨x0, cap, cs, rfl, _⟩
            · exact ⟨_, _, _, rfl⟩
            · exact ⟨_, _, _, rfl⟩
          · obtain ⟨a, cap, rfl, _⟩ := hr
            exact ⟨_, _, _, rfl⟩
      refine Rel.mono h5.size (fun x hx hnx => h5.block x hx fun h' => hnx (.inr h')) (fun x hx => ?_) _ _ _ _ (fun _ _ h => h) hro
      rcases hx with hx | hx
      · exact .inl (.inl hx)
      · exact (h6 x hx).imp .inr id
    · obtain ⟨u, hu, hr⟩ := h2.blk j b hj
      exact ⟨u, hn j u hu, blkR_rel hn b hr⟩
  · intro k k' b1 b2 u1 u2 x hb1 hb2 hu1 hu2 ho1 ho2
    rcases hlook k b1 hb1 with ⟨b, hl, rfl⟩ | ⟨_, j, b, hj, rfl, rfl⟩
    · rw [hlentno k b _ hl] at ho1; cases ho1
    · rcases hlook k' b2 hb2 with ⟨b', hl, rfl⟩ | ⟨_, j', b', hj', rfl, rfl⟩
      · rw [hlentno k' b' _ hl] at ho2; cases ho2
      · obtain ⟨v1, hv1, _⟩ := h2.blk j b hj
        obtain ⟨v2, hv2, _⟩ := h2.blk j' b' hj'
        have e1 : some v1 = some u1 := (hn j v1 hv1).symm.trans hu1
        have e2 : some v2 = some u2 := (hn j' v2 hv2).symm.trans hu2
        rw [← Option.some.inj e1, owner_blkR] at ho1
        rw [← Option.some.inj e2, owner_blkR] at ho2
        rw [h2.sep j j' b b' v1 v2 x hj hj' hv1 hv2 ho1 ho2]
  · exact h2.lt
  · intro x hx h'
    exact h2.apart x hx ((hownE x).1 h')
  · intro j h hj
    have : ¬ (nx ≤ j ∧ j < nx + ((S.post γ).length - σ.length)) := by
      intro h'
      rw [hf j h'.1 h'.2] at hj; cases hj
    simp only [this, if_false]
    exact hj
  · intro j hj
    simp only [hj, if_false]
  · intro x hx
    rcases h6 x ((hownE x).1 hx) with h' | h'
    · exact .inl (hO1 x h')
    · exact .inr h'
end
end Go.Eng
namespace Go.Eng
open Go
def GOK (P : Program) (Γ : FuncId → Option FSpec) : Prop := ∀ f S, Γ f = some S → Meets P f S
section
variable {P : Program} {o : Oper} {regs : List RV} {bs : List (Nat × Blk)} {nx : Nat}
theorem run_call {c : Call} {f : Operand} {fid : FuncId} {arr : Array Value} {fn : Func} {ρ : Operand → Value} (ho : o.op = .call c) (hc : c.callee = .value f) (hf : ρ f = .func (.func fid) #[] arr)
    (hfn : P.funcs[fid]? = some fn) (hb : fn.body.isSome = true) (hn : (fn.name == "runtime.NumGoroutine") = false) (w : World) :
    (execOp ρ o).run P w = .ok (.enter fid (c.args.map ρ ++ arr)) w := by
  have hb' : ¬ fn.body = none := by
    intro h; rw [h] at hb; cases hb
  have hn' : ¬ fn.name = "runtime.NumGoroutine" := by simpa using hn
  simp only [execOp, ho, resolve, hc, hf]
  simp [Deferred.ofValue, invoke, callFunc, hfn, hn', hb']
theorem run_callB {c : Call} {f : Operand} {fid : FuncId} {arr : Array Value} {fn : Func} {ρ : Operand → Value} (ho : o.op = .call c) (hc : c.callee = .value f) (hf : ρ f = .func (.func fid) arr #[]) (hn0 : c.args.toList = [])
    (hfn : P.funcs[fid]? = some fn) (hb : fn.body.isSome = true) (hn : (fn.name == "runtime.NumGoroutine") = false) (w : World) :
    (execOp ρ o).run P w = .ok (.enter fid (c.args.map ρ ++ arr)) w := by
  have hb' : ¬ fn.body = none := by
    intro h; rw [h] at hb; cases hb
  have hn' : ¬ fn.name = "runtime.NumGoroutine" := by simpa using hn
  have ha : c.args = #[] := by simpa using hn0
  simp only [execOp, ho, resolve, hc, hf, ha]
  simp [Deferred.ofValue, invoke, callFunc, hfn, hn', hb']
/-- A function's value, or one that has its arguments. -/
def Callee (regs : List RV) (c : Call) (f : Operand) (fid : FuncId) (caps : List Cap) : Prop :=
  Opd regs f (.s (.c (.fn fid caps))) ∨ (c.args.toList = [] ∧ Opd regs f (.s (.c (.bfn fid caps))))
theorem callee_run {c : Call} {f : Operand} {fid : FuncId} {caps : List Cap} {ρ : Operand → Value} {O : Nat → Prop} {w : World} {hs : Names} (ho : o.op = .call c) (hc : c.callee = .value f) (hf : Callee regs c f fid caps)
    (hr : ∀ v, Opd regs f v → RVRel O w v hs (ρ f)) : ∃ arr : Array Value, (∀ fn, P.funcs[fid]? = some fn → fn.body.isSome = true → (fn.name == "runtime.NumGoroutine") = false → (execOp ρ o).run P w = .ok (.enter fid (c.args.map ρ ++ arr)) w) ∧
      arr.size = caps.length ∧ ∀ (i : Nat) (c : Cap) (x : Value), caps[i]? = some c → arr[i]? = some x → CapRel hs c x := by
  rcases hf with hf | ⟨h0, hf⟩
  · obtain ⟨arr, e1, e2, e3⟩ := hr _ hf
    exact ⟨arr, fun fn h1 h2 h3 => run_call ho hc e1 h1 h2 h3 w, e2, e3⟩
  · obtain ⟨arr, e1, e2, e3⟩ := hr _ hf
    exact ⟨arr, fun fn h1 h2 h3 => run_callB ho hc e1 h0 h1 h2 h3 w, e2, e3⟩
theorem good_call {Γ : FuncId → Option FSpec} (hΓ : GOK P Γ) (hbn : ∀ j b, look bs j = some b → j < nx) {c : Call} {f : Operand} {fid : FuncId} {caps : List Cap} {vs : List RV} {k : Kont} (ho : o.op = .call c) (hc : c.callee = .value f)
    (hf : Callee regs c f fid caps) (hl : vs.length = c.args.toList.length) (hv : ∀ (i : Nat) x u, c.args.toList[i]? = some x → vs[i]? = some u → Opd regs x u)
    (h : callK Γ bs nx fid (vs ++ caps.map Cap.rv) k) : ∃ rv rd pre pb nx', k rv rd pre pb nx' ∧ Good P o regs bs nx rv rd pre pb nx' := by
  unfold callK at h
  cases hS : Γ fid with
  | none => rw [hS] at h; exact h.elim
  | some S =>
    rw [hS] at h
    have hM := hΓ fid S hS
    obtain ⟨⟨γ, σ, h⟩⟩ := h
    split at h
    · exact h.elim
    · exact h.elim
    rename_i h0 hpn
    obtain ⟨h1, h2, h3, h4, h5⟩ := h
    have h5 := rvRen_is _ _ h5
    have h5 := blksRen_is _ _ h5
    have h5 := litK_spec _ _ _ _ h5
    obtain ⟨lent, h5, h6, h7⟩ := freezeK_spec _ _ h5
    split at h5
    case h_2 => exact h5.elim
    rename_i hnd hdis
    -- the arguments, as the called function meets them
    have hrun : ∀ (F : Nat → Prop) (hs : Names) (ρ : Operand → Value) (w : World),
        (∀ x ∈ o.op.operands, ∀ v, Opd regs x v → RVRel (Osum F hs (look (lent ++ blksAt bs σ))) w v hs (ρ x)) → WRep F hs (look (lent ++ blksAt bs σ)) w → (∀ j, nx ≤ j → j < nx + ((S.post γ).length - σ.length) → hs j = none) →
        Yield P (Post F hs (look (lent ++ blksAt bs σ)) w (rvR σ nx (S.res γ)) (look ((lent.map fun p => (p.1, froz p.2)) ++ (S.post γ).map fun p => (ren σ nx p.1, blkR σ nx p.2))) nx (nx + ((S.post γ).length - σ.length))) ((execOp ρ o).run P w) := by
      intro F hs ρ w hr hw hfr
      have hfm : f ∈ o.op.operands := by simp [ho, Op.operands, Call.operands, hc]
      obtain ⟨arr, e1, e2, e3⟩ := callee_run (P := P) ho hc hf (hr f hfm)
      obtain ⟨fn, e4, e5, e6⟩ := hM.body
      rw [e1 _ e4 e5 e6]
      refine Calls.mono (call_post hM γ h0 h4 h1 h2 h3 hnd h6 h7 hdis hw hfr hbn (vals := c.args.map ρ ++ arr) ⟨?_, fun i a v ha hv' => ?_⟩) fun e w' ⟨v, he, hp⟩ => ⟨v, (by rw [hpn] at he; exact he), hp⟩
      · simp [e2, hl]
      · by_cases hi : i < vs.length
        · rw [List.getElem?_append_left hi] at ha
          rw [Array.getElem?_append_left (by simp; simp at hl; omega)] at hv'
          simp only [Array.getElem?_map, Option.map_eq_some_iff] at hv'
          obtain ⟨y, hy, rfl⟩ := hv'
          have hy' : c.args.toList[i]? = some y := by simpa using hy
          exact hr y (call_operands ho hy') _ (hv i y a hy' ha)
        · have hsz : (c.args.map ρ).size = vs.length := by simp [hl]
          rw [List.getElem?_append_right (by omega)] at ha
          rw [Array.getElem?_append_right (by omega), hsz] at hv'
          simp only [List.getElem?_map, Option.map_eq_some_iff] at ha
          obtain ⟨c0, h8, rfl⟩ := ha
          have h9 := e3 _ c0 v h8 hv'
          cases c0 with
          | ptr j off => exact h9
          | v y => exact h9
    have hsub : Sub (look (lent ++ blksAt bs σ)) (look bs) := by
      intro j b h
      have hm := look_mem _ j b h
      rcases List.mem_append.1 hm with hm | hm
      · exact (h7 _ hm).1
      · exact (blksAt_spec σ _ hm).2
    have hqn : ∀ p ∈ S.post γ, p.1 < (S.post γ).length := by
      intro p hp
      obtain ⟨c, hc⟩ := look_of_mem (show (p.1, p.2) ∈ S.post γ from hp)
      exact hM.qn γ p.1 c hc
    have hgen : Good P o regs bs nx (rvR σ nx (S.res γ)) [] (lent ++ blksAt bs σ) ((lent.map fun p => (p.1, froz p.2)) ++ (S.post γ).map fun p => (ren σ nx p.1, blkR σ nx p.2)) (nx + ((S.post γ).length - σ.length)) := by
      refine ⟨by simpa using hsub, fun j b hj => ?_, fun j b hj => ?_, by omega, fun F hs ρ w hr hw hfr => by simpa using hrun F hs ρ w (by simpa using hr) (by simpa using hw) hfr⟩
      · simp only [List.append_nil] at hj ⊢
        have hm := look_mem _ j b hj
        rcases List.mem_append.1 hm with hm | hm
        · exact look_of_mem (b := froz b) (List.mem_append.2 (.inl (List.mem_map.2 ⟨(j, b), hm, rfl⟩)))
        · obtain ⟨hσj, hb⟩ := blksAt_spec σ _ hm
          obtain ⟨i, hi, hij⟩ := List.getElem_of_mem hσj
          obtain ⟨c, hc⟩ := hM.full γ i (by omega)
          obtain ⟨c', hc'⟩ := hM.kp γ i c hc
          have hmem := look_mem _ i c' hc'
          have hren : ren σ nx i = j := by
            unfold ren
            rw [if_pos hi, List.getD_eq_getElem?_getD, List.getElem?_eq_getElem hi]
            exact hij
          exact look_of_mem (b := blkR σ nx c') (List.mem_append.2 (.inr (List.mem_map.2 ⟨(i, c'), hmem, by rw [← hren]⟩)))
      · simp only [List.append_nil] at hj ⊢
        have hm := look_mem _ j b hj
        rcases List.mem_append.1 hm with hm | hm
        · obtain ⟨p, hp, he⟩ := List.mem_map.1 hm
          cases he
          exact .inl (look_of_mem (b := p.2) (List.mem_append.2 (.inl hp)))
        · obtain ⟨p, hp, he⟩ := List.mem_map.1 hm
          cases he
          have hp1 := hqn p hp
          by_cases hpm : p.1 < σ.length
          · left
            obtain ⟨c, hc⟩ := hM.full γ p.1 (by omega)
            obtain ⟨j', b', h8, h9, _⟩ := blksEq_spec _ h3 (p.1, c) (look_mem _ _ _ hc)
            have hren : ren σ nx p.1 = j' := by
              unfold ren
              rw [if_pos hpm, List.getD_eq_getElem?_getD, h8]; rfl
            rw [hren]
            exact look_of_mem (List.mem_append.2 (.inr (blksAt_mem σ j' b' (List.mem_of_getElem? h8) h9)))
          · right
            unfold ren
            rw [if_neg hpm]
            omega
    split at h5
    · -- what was lent is lent no longer
      rename_i hpl hpb
      have hpost : S.post γ = [] := by
        cases hq : S.post γ with
        | nil => rfl
        | cons p l => rw [hq] at hpb; simp at hpb
      refine ⟨_, _, _, _, _, h5, ?_⟩
      simp only [hpost, List.length_nil, List.length_nil, Nat.zero_sub, Nat.sub_self, Nat.add_zero] at hgen ⊢
      simp only [blksAt, List.append_nil, List.map_nil] at hrun hgen hsub
      refine ⟨by simpa using hsub, fun j b hj => ⟨b, hj⟩, fun j b hj => .inl ⟨b, hj⟩, Nat.le_refl _, fun F hs ρ w hr hw hfr => ?_⟩
      simp only [List.nil_append] at hr hw ⊢
      have hy := hrun F hs ρ w hr hw fun j hj hj' => hfr j hj (by simp only [hpost, List.length_nil, Nat.zero_sub, Nat.add_zero] at hj'; exact hj')
      have hfm : f ∈ o.op.operands := by simp [ho, Op.operands, Call.operands, hc]
      obtain ⟨arr, e1, e2, e3⟩ := callee_run (P := P) ho hc hf (hr f hfm)
      obtain ⟨fn, e4, e5, e6⟩ := hM.body
      rw [e1 _ e4 e5 e6] at hy ⊢
      have hblk0 : S.blks γ = [] := List.eq_nil_of_length_eq_zero (by rw [← h1]; rfl)
      -- the called function has turned nothing
      have hcore := call_core hM γ h0 h4 h1 h2 h3 hnd h6 (fun p hp => (h7 p hp).1) hdis (by simpa [blksAt] using hw) (vals := c.args.map ρ ++ arr)
        (by
          refine ⟨?_, fun i a v ha hv' => ?_⟩
          · simp [e2, hl]
          · by_cases hi : i < vs.length
            · rw [List.getElem?_append_left hi] at ha
              rw [Array.getElem?_append_left (by simp; simp at hl; omega)] at hv'
              simp only [Array.getElem?_map, Option.map_eq_some_iff] at hv'
              obtain ⟨y, hy, rfl⟩ := hv'
              have hy' : c.args.toList[i]? = some y := by simpa using hy
              simpa [blksAt] using hr y (call_operands ho hy') _ (hv i y a hy' ha)
            · have hsz : (c.args.map ρ).size = vs.length := by simp [hl]
              rw [List.getElem?_append_right (by omega)] at ha
              rw [Array.getElem?_append_right (by omega), hsz] at hv'
              simp only [List.getElem?_map, Option.map_eq_some_iff] at ha
              obtain ⟨c0, h8, rfl⟩ := ha
              have h9 := e3 _ c0 v h8 hv'
              cases c0 with
              | ptr j off => exact h9
              | v y => exact h9)
      obtain ⟨_, hO1, _, _, hcall⟩ := hcore
      refine hcall.mono ?_
      rintro e w' ⟨v, he, hs', g1, g2, g3, g4, g5, g6⟩
      rw [hpn] at he
      have he : e = .returned v := he
      subst he
      have hno : ∀ x, ¬ own (fun i => if i < ([] : List Nat).length then hs (([] : List Nat).getD i 0) else none) (look (S.blks γ)) x := by
        rintro x ⟨i, b, u, hb, _⟩
        rw [hblk0] at hb; simp [look] at hb
      have hfr' : Fr (fun _ => False) w w' := g5.mono fun x _ hx => hno x hx
      refine ⟨v, rfl, hs, plain_rv hpl (rvR_rel (hc := hs') (hs := fun k => if nx ≤ k then hs' (k - nx) else none) (fun j h hj => ?_) _ g1), ⟨fun j b hj => ?_, hw.sep, fun x hx => Nat.lt_of_lt_of_le (hw.lt x hx) hfr'.size, hw.apart⟩,
        fun _ _ h => h, fun _ _ => rfl, hfr'.mono (fun _ _ h => h.elim), fun x hx => .inl hx⟩
      · unfold ren
        simp only [List.length_nil, Nat.not_lt_zero, if_false, Nat.sub_zero]
        rw [if_pos (by omega), show nx + j - nx = j by omega]
        exact hj
      · obtain ⟨u, hu, hr'⟩ := hw.blk j b hj
        exact ⟨u, hu, BlkRel.mono hfr'.size (fun x hx _ => hfr'.block x hx id) (fun x hx => .inl hx) (fun _ _ h => h) (fun x hx => hfr'.block x (own_lt hw ⟨j, b, u, hj, hu, hx⟩) id) hr'⟩
    · exact ⟨_, _, _, _, _, h5, hgen⟩
/-- A call that panics. -/
structure GoodP (P : Program) (o : Oper) (regs : List RV) (bs : List (Nat × Blk)) (nx : Nat) (ch : List PanicEntry) (pre pb : List (Nat × Blk)) (nx' : Nat) : Prop where
  call : ∃ c, o.op = .call c
  sub : Sub (look pre) (look bs)
  dom : ∀ j b, look pre j = some b → ∃ b', look pb j = some b'
  new : ∀ j b, look pb j = some b → (∃ b0, look pre j = some b0) ∨ (nx ≤ j ∧ j < nx')
  le : nx ≤ nx'
  run : ∀ (F : Nat → Prop) (hs : Names) (ρ : Operand → Value) (w : World),
    (∀ x ∈ o.op.operands, ∀ v, Opd regs x v → RVRel (Osum F hs (look pre)) w v hs (ρ x)) →
    WRep F hs (look pre) w → (∀ j, nx ≤ j → j < nx' → hs j = none) →
    ∃ f args, (execOp ρ o).run P w = .ok (.enter f args) w ∧ Calls P f args w fun e w' => e = .panicked ch ∧ ∃ rv v, Post F hs (look pre) w rv (look pb) nx nx' v w'
theorem good_callP {Γ : FuncId → Option FSpec} (hΓ : GOK P Γ) (hbn : ∀ j b, look bs j = some b → j < nx) {c : Call} {f : Operand} {fid : FuncId} {caps : List Cap} {vs : List RV} {k : List PanicEntry → List (Nat × Blk) → Nat → Prop} (ho : o.op = .call c) (hc : c.callee = .value f)
    (hf : Callee regs c f fid caps) (hl : vs.length = c.args.toList.length) (hv : ∀ (i : Nat) x u, c.args.toList[i]? = some x → vs[i]? = some u → Opd regs x u)
    (h : panCallK Γ bs nx fid (vs ++ caps.map Cap.rv) k) : ∃ ch pre pb bs' nx', k ch bs' nx' ∧ (∀ i, look bs' i = look (pb ++ bs) i) ∧ GoodP P o regs bs nx ch pre pb nx' := by
  unfold panCallK at h
  cases hS : Γ fid with
  | none => rw [hS] at h; exact h.elim
  | some S =>
    rw [hS] at h
    have hM := hΓ fid S hS
    obtain ⟨⟨γ, σ, h⟩⟩ := h
    split at h
    · exact h.elim
    · exact h.elim
    rename_i ch h0 hpn
    obtain ⟨h1, h2, h3, h4, h5⟩ := h
    have h5 := blksRen_is _ _ h5
    have h5 := litK_spec _ _ _ _ h5
    obtain ⟨lent, h5, h6, h7⟩ := freezeK_spec _ _ h5
    split at h5
    case h_2 => exact h5.elim
    rename_i hnd hdis
    obtain ⟨bs', h5, hbs'⟩ := putsK_spec _ _ _ h5
    have hrun : ∀ (F : Nat → Prop) (hs : Names) (ρ : Operand → Value) (w : World),
        (∀ x ∈ o.op.operands, ∀ v, Opd regs x v → RVRel (Osum F hs (look (lent ++ blksAt bs σ))) w v hs (ρ x)) → WRep F hs (look (lent ++ blksAt bs σ)) w → (∀ j, nx ≤ j → j < nx + ((S.post γ).length - σ.length) → hs j = none) →
        ∃ f args, (execOp ρ o).run P w = .ok (.enter f args) w ∧ Calls P f args w fun e w' => e = .panicked ch ∧ ∃ rv v, Post F hs (look (lent ++ blksAt bs σ)) w rv (look ((lent.map fun p => (p.1, froz p.2)) ++ (S.post γ).map fun p => (ren σ nx p.1, blkR σ nx p.2))) nx (nx + ((S.post γ).length - σ.length)) v w' := by
      intro F hs ρ w hr hw hfr
      have hfm : f ∈ o.op.operands := by simp [ho, Op.operands, Call.operands, hc]
      obtain ⟨arr, e1, e2, e3⟩ := callee_run (P := P) ho hc hf (hr f hfm)
      obtain ⟨fn, e4, e5, e6⟩ := hM.body
      rw [e1 _ e4 e5 e6]
      refine ⟨_, _, rfl, Calls.mono (call_post hM γ h0 h4 h1 h2 h3 hnd h6 h7 hdis hw hfr hbn (vals := c.args.map ρ ++ arr) ⟨?_, fun i a v ha hv' => ?_⟩) fun e w' ⟨v, he, hp⟩ => ⟨(by rw [hpn] at he; exact he), _, v, hp⟩⟩
      · simp [e2, hl]
      · by_cases hi : i < vs.length
        · rw [List.getElem?_append_left hi] at ha
          rw [Array.getElem?_append_left (by simp; simp at hl; omega)] at hv'
          simp only [Array.getElem?_map, Option.map_eq_some_iff] at hv'
          obtain ⟨y, hy, rfl⟩ := hv'
          have hy' : c.args.toList[i]? = some y := by simpa using hy
          exact hr y (call_operands ho hy') _ (hv i y a hy' ha)
        · have hsz : (c.args.map ρ).size = vs.length := by simp [hl]
          rw [List.getElem?_append_right (by omega)] at ha
          rw [Array.getElem?_append_right (by omega), hsz] at hv'
          simp only [List.getElem?_map, Option.map_eq_some_iff] at ha
          obtain ⟨c0, h8, rfl⟩ := ha
          have h9 := e3 _ c0 v h8 hv'
          cases c0 with
          | ptr j off => exact h9
          | v y => exact h9
    have hsub : Sub (look (lent ++ blksAt bs σ)) (look bs) := by
      intro j b h
      have hm := look_mem _ j b h
      rcases List.mem_append.1 hm with hm | hm
      · exact (h7 _ hm).1
      · exact (blksAt_spec σ _ hm).2
    have hqn : ∀ p ∈ S.post γ, p.1 < (S.post γ).length := by
      intro p hp
      obtain ⟨c, hc⟩ := look_of_mem (show (p.1, p.2) ∈ S.post γ from hp)
      exact hM.qn γ p.1 c hc
    refine ⟨ch, _, _, bs', _, h5, hbs', ⟨c, ho⟩, hsub, fun j b hj => ?_, fun j b hj => ?_, by omega, hrun⟩
    · have hm := look_mem _ j b hj
      rcases List.mem_append.1 hm with hm | hm
      · exact look_of_mem (b := froz b) (List.mem_append.2 (.inl (List.mem_map.2 ⟨(j, b), hm, rfl⟩)))
      · obtain ⟨hσj, hb⟩ := blksAt_spec σ _ hm
        obtain ⟨i, hi, hij⟩ := List.getElem_of_mem hσj
        obtain ⟨c, hc⟩ := hM.full γ i (by omega)
        obtain ⟨c', hc'⟩ := hM.kp γ i c hc
        have hmem := look_mem _ i c' hc'
        have hren : ren σ nx i = j := by
          unfold ren
          rw [if_pos hi, List.getD_eq_getElem?_getD, List.getElem?_eq_getElem hi]
          exact hij
        exact look_of_mem (b := blkR σ nx c') (List.mem_append.2 (.inr (List.mem_map.2 ⟨(i, c'), hmem, by rw [← hren]⟩)))
    · have hm := look_mem _ j b hj
      rcases List.mem_append.1 hm with hm | hm
      · obtain ⟨p, hp, he⟩ := List.mem_map.1 hm
        cases he
        exact .inl (look_of_mem (b := p.2) (List.mem_append.2 (.inl hp)))
      · obtain ⟨p, hp, he⟩ := List.mem_map.1 hm
        cases he
        have hp1 := hqn p hp
        by_cases hpm : p.1 < σ.length
        · left
          obtain ⟨c, hc⟩ := hM.full γ p.1 (by omega)
          obtain ⟨j', b', h8, h9, _⟩ := blksEq_spec _ h3 (p.1, c) (look_mem _ _ _ hc)
          have hren : ren σ nx p.1 = j' := by
            unfold ren
            rw [if_pos hpm, List.getD_eq_getElem?_getD, h8]; rfl
          rw [hren]
          exact look_of_mem (List.mem_append.2 (.inr (blksAt_mem σ j' b' (List.mem_of_getElem? h8) h9)))
        · right
          unfold ren
          rw [if_neg hpm]
          omega
theorem panOpK_spec {Γ : FuncId → Option FSpec} (hΓ : GOK P Γ) (hbn : ∀ j b, look bs j = some b → j < nx) {k : List PanicEntry → List (Nat × Blk) → Nat → Prop} (h : panOpK Γ o regs bs nx k) :
    o.guard = none ∧ ∃ ch pre pb bs' nx', k ch bs' nx' ∧ (∀ i, look bs' i = look (pb ++ bs) i) ∧ GoodP P o regs bs nx ch pre pb nx' := by
  unfold panOpK at h
  split at h
  case h_2 => exact h.elim
  rename_i c hg ho
  split at h
  case h_2 => exact h.elim
  rename_i f hc
  obtain ⟨vf, h1, h⟩ := opK_spec _ _ _ h
  obtain ⟨vs, h, h2, h3⟩ := opsK_spec _ _ _ h
  split at h
  case h_3 => exact h.elim
  · exact ⟨hg, good_callP hΓ hbn ho hc (.inl h1) h2 h3 h⟩
  · split at h
    · rename_i h0
      exact ⟨hg, good_callP hΓ hbn ho hc (.inr ⟨h0, h1⟩) h2 h3 h⟩
    · exact h.elim
end
end Go.Eng
namespace Go.Eng
open Go
section
variable {P : Program} {o : Oper} {regs : List RV} {bs : List (Nat × Blk)} {nx : Nat} {rd : List (Nat × Blk)}
theorem ints_agg {O : Nat → Prop} {w : World} {hs : Names} {l : List Cell} {xs : List Int} {n : Nat} (hl : l.length = n) (hx : xs.length = n) (h : ∀ t, t < n → l[0 + t]? = some (.v (.int .i64 (xs.getD t 0)))) {u : Value}
    (hr : RVRel O w (.s (.agg l)) hs u) : u = .agg (xs.map (Value.int .i64)).toArray := by
  obtain ⟨cs, rfl, h2, h3⟩ := hr
  congr 1
  apply Array.ext
  · simp [h2, hl, hx]
  · intro i h4 h5
    have h6 : i < n := by omega
    have e1 := h i h6
    rw [Nat.zero_add] at e1
    have := h3 i _ cs[i] e1 (Array.getElem?_eq_getElem h4)
    rw [this.1]
    simp [List.getD_eq_getElem?_getD, List.getElem?_eq_getElem (by omega : i < xs.length)]
theorem good_index {x ix : Operand} {t e : TypeId} {len : Nat} {q : IntKind} {i : Int} {l : List Cell} {xs : List Int} {inf : TypeInfo} (ho : o.op = .index t x ix) (ht : P.underlying t = some (.array len e)) (he : isAggT P e = some false) (hi : P.info? e = some inf)
    (hs : inf.size = 1) (hx : Opd regs x (.s (.agg l))) (hix : Opd regs ix (.s (.c (.v (.int q i))))) (hb : 0 ≤ i ∧ i < len) (hll : l.length = len) (hxl : xs.length = len)
    (hxs : ∀ t, t < len → l[0 + t]? = some (.v (.int .i64 (xs.getD t 0)))) : Good P o regs bs nx (.s (.c (.v (.int .i64 (xs.getD i.toNat 0))))) [] [] [] nx :=
  good_pure (sub_nil _) fun F hs' ρ w hr hw => by
    have e1 := ints_agg hll hxl hxs (hr x (by simp [ho, Op.operands]) _ hx)
    have e2 := rel_v (hr ix (by simp [ho, Op.operands]) _ hix)
    refine ⟨_, ?_, rfl, rfl⟩
    have hlt : i.toNat < xs.length := by omega
    have hget : (xs.map (Value.int .i64)).toArray[i.toNat]? = some (.int .i64 (xs.getD i.toNat 0)) := by
      simp [List.getD_eq_getElem?_getD, List.getElem?_eq_getElem hlt]
    simp only [execOp, ho, e1, e2]
    simp [Instr.index, asIntOf, run_underlying ht, hb, part, run_isAgg he, sizeOf, typeInfo, hi, hs, hget, List.getD_eq_getElem?_getD, List.getElem?_eq_getElem hlt]
/-! ### Numbers in a struct or an array, held against others -/
theorem beqL_iff : ∀ (l r : List Int), beqL l r = true ↔ l = r
  | [], [] => by simp [beqL]
  | x :: l, y :: r => by simp [beqL, beqL_iff l r]
  | [], _ :: _ => by simp [beqL]
  | _ :: _, [] => by simp [beqL]
theorem beqL_ff (l r : List Int) : beqL l r = false ↔ ¬ l = r := by
  rw [← beqL_iff]; simp
theorem aggOk_spec {P : Program} {t : TypeId} {n : Nat} (h : aggOk P t n = true) : eqT P 8 t = some n ∧ P.eqGuardType P.depth t = false := by
  unfold aggOk at h
  rw [Bool.and_eq_true] at h
  obtain ⟨h1, h2⟩ := h
  refine ⟨?_, by simpa using h2⟩
  split at h1
  · rename_i m hm
    rw [hm, Nat.eq_of_beq_eq_true h1]
  · cases h1
theorem beqL_dec (l r : List Int) : beqL l r = decide (l = r) := by
  rw [Bool.eq_iff_iff, beqL_iff]; simp
/-- The value of a type that is numbers. -/
def valI (P : Program) (t : TypeId) (xs : List Int) : Value :=
  match P.underlying t with
  | some (.int _) => .int .i64 (xs.getD 0 0)
  | _ => .agg (xs.map (Value.int .i64)).toArray
theorem eqT_info {d : Nat} {t : TypeId} {k : Nat} (h : eqT P d t = some k) : ∃ inf, P.info? t = some inf ∧ inf.size = k := by
  cases d with
  | zero => cases h
  | succ d =>
    unfold eqT at h
    cases hi : P.info? t with
    | none => rw [hi] at h; cases h
    | some inf =>
      rw [hi] at h
      refine ⟨inf, rfl, ?_⟩
      simp only at h
      split at h
      · split at h
        · cases h; assumption
        · cases h
      · split at h
        · split at h
          · cases h; assumption
          · cases h
        · cases h
      · split at h
        · cases h
        · split at h
          · split at h
            · cases h; assumption
            · cases h
          · cases h
      · cases h
theorem part_ints {d : Nat} {t : TypeId} {k : Nat} (h : eqT P d t = some k) (zs : List Int) (off : Nat) (hl : off + k ≤ zs.length) (w : World) :
    (part t (zs.map (Value.int .i64)).toArray off).run P w = .ok (valI P t ((zs.drop off).take k)) w := by
  obtain ⟨inf, hi, hk⟩ := eqT_info h
  cases d with
  | zero => cases h
  | succ d =>
    unfold eqT at h
    rw [hi] at h
    simp only at h
    have hagg : ∀ b, isAggT P t = some b → (isAgg t).run P w = .ok b w := fun b hb => run_isAgg hb w
    have hext : ((zs.map (Value.int .i64)).toArray.extract off (off + inf.size)) = (((zs.drop off).take k).map (Value.int .i64)).toArray := by
      rw [hk]
      apply Array.toList_inj.1
      simp [List.map_take, List.map_drop]
    split at h
    · rename_i ht
      split at h
      · cases h
        have hlt : off < zs.length := by omega
        have hb : isAggT P t = some false := by simp [isAggT, ht]
        simp only [part, Sem.run_bind, hagg _ hb, Result.andThen_ok, valI, ht]
        simp [List.getElem?_eq_getElem hlt, List.getD_eq_getElem?_getD]
      · cases h
    · rename_i n e ht
      have hb : isAggT P t = some true := by simp [isAggT, ht]
      simp only [part, Sem.run_bind, hagg _ hb, Result.andThen_ok, valI, ht, if_true, run_sizeOf hi, Sem.run_pure, hext]
    · rename_i fs ht
      have hb : isAggT P t = some true := by simp [isAggT, ht]
      simp only [part, Sem.run_bind, hagg _ hb, Result.andThen_ok, valI, ht, if_true, run_sizeOf hi, Sem.run_pure, hext]
    · cases h
def fieldsT (P : Program) (d : Nat) (a : Option Nat) (f : Field) : Option Nat :=
  match a with
  | none => none
  | some off => if f.name = "_" ∨ f.offset ≠ off then none else match eqT P d f.type with
    | some k => some (off + k)
    | none => none
theorem fieldsT_none (d : Nat) : ∀ fs : List Field, fs.foldl (fieldsT P d) none = none
  | [] => rfl
  | f :: fs => fieldsT_none d fs
theorem run_eqFields {d m : Nat} (ih : ∀ (t : TypeId) (k : Nat), eqT P d t = some k → ∀ (m : Nat) (xs ys : List Int), xs.length = k → ys.length = k → ∀ w : World,
      (Op.equalIn (d + m) t (valI P t xs) (valI P t ys)).run P w = .ok (decide (xs = ys)) w) (w : World) : ∀ (fs : List Field) (off k : Nat) (xs ys : List Int), fs.foldl (fieldsT P d) (some off) = some k → k ≤ xs.length → k ≤ ys.length → xs.take off = ys.take off →
    off ≤ k ∧ (Op.eqFields (d + m) (xs.map (Value.int .i64)).toArray (ys.map (Value.int .i64)).toArray fs).run P w = .ok (decide (xs.take k = ys.take k)) w
  | [], off, k, xs, ys, h, h1, h2, he => by
    cases h
    exact ⟨Nat.le_refl _, by simp [Op.eqFields, he]⟩
  | f :: fs, off, k, xs, ys, h, h1, h2, he => by
    rw [List.foldl_cons] at h
    cases hf : fieldsT P d (some off) f with
    | none => rw [hf, fieldsT_none] at h; cases h
    | some off2 =>
      rw [hf] at h
      simp only [fieldsT] at hf
      split at hf
      · cases hf
      rename_i hne
      have hname : f.name ≠ "_" := fun e => hne (.inl e)
      have hoff : f.offset = off := Decidable.byContradiction fun e => hne (.inr e)
      cases hk : eqT P d f.type with
      | none => rw [hk] at hf; cases hf
      | some kf =>
        rw [hk] at hf
        cases hf
        by_cases e1 : (xs.drop off).take kf = (ys.drop off).take kf
        · obtain ⟨g1, g2⟩ := run_eqFields ih w fs (off + kf) k xs ys h h1 h2 (by rw [List.take_add, List.take_add, he, e1])
          have hi := ih f.type kf hk m ((xs.drop off).take kf) ((ys.drop off).take kf) (by simp; omega) (by simp; omega) w
          rw [decide_eq_true e1] at hi
          refine ⟨by omega, ?_⟩
          simp only [Op.eqFields, hname, ne_eq, not_false_eq_true, if_true, Sem.run_bind, hoff, part_ints hk xs off (by omega) w, part_ints hk ys off (by omega) w, Result.andThen_ok, hi, Bool.not_true, Bool.false_eq_true, if_false]
          exact g2
        · have hle : off + kf ≤ k := by
            have : ∀ (fs : List Field) (a : Nat), fs.foldl (fieldsT P d) (some a) = some k → a ≤ k := by
              intro fs
              induction fs with
              | nil => intro a ha; cases ha; exact Nat.le_refl _
              | cons g gs ihg =>
                intro a ha
                rw [List.foldl_cons] at ha
                cases hg : fieldsT P d (some a) g with
                | none => rw [hg, fieldsT_none] at ha; cases ha
                | some b =>
                  rw [hg] at ha
                  have := ihg b ha
                  simp only [fieldsT] at hg
                  split at hg
                  · cases hg
                  · split at hg
                    · cases hg; omega
                    · cases hg
            exact this fs _ h
          have hne2 : xs.take k ≠ ys.take k := by
            intro e
            apply e1
            have : ∀ zs : List Int, (zs.drop off).take kf = ((zs.take k).drop off).take kf := by
              intro zs
              rw [List.drop_take, List.take_take, Nat.min_eq_left (by omega)]
            rw [this xs, this ys, e]
          have hi := ih f.type kf hk m ((xs.drop off).take kf) ((ys.drop off).take kf) (by simp; omega) (by simp; omega) w
          rw [decide_eq_false e1] at hi
          refine ⟨by omega, ?_⟩
          simp only [Op.eqFields, hname, ne_eq, not_false_eq_true, if_true, Sem.run_bind, hoff, part_ints hk xs off (by omega) w, part_ints hk ys off (by omega) w, Result.andThen_ok, hi, Bool.not_false, if_true, Sem.run_pure, hne2, decide_false]
theorem run_eqT : ∀ (d : Nat) (t : TypeId) (k : Nat), eqT P d t = some k → ∀ (m : Nat) (xs ys : List Int), xs.length = k → ys.length = k → ∀ w : World,
    (Op.equalIn (d + m) t (valI P t xs) (valI P t ys)).run P w = .ok (decide (xs = ys)) w := by
  intro d
  induction d with
  | zero => intro t k h; cases h
  | succ d ih =>
    intro t k h m xs ys hx hy w
    unfold eqT at h
    obtain ⟨inf, hi, hk⟩ : ∃ inf, P.info? t = some inf ∧ True := by
      cases hi : P.info? t with
      | none => rw [hi] at h; cases h
      | some inf => exact ⟨inf, rfl, trivial⟩
    rw [hi] at h
    simp only at h
    rw [show d + 1 + m = (d + m) + 1 by omega]
    split at h
    · rename_i ht
      split at h
      · cases h
        match xs, ys, hx, hy with
        | [a], [b], _, _ =>
          simp only [valI, ht]
          rw [run_equalIn_int w (d + m) t .i64 .i64 _ _ ht]
          simp
          by_cases e : a = b <;> simp [e]
      · cases h
    · rename_i n e ht
      split at h
      · rename_i k' he
        split at h
        · cases h
          simp only [valI, ht]
          obtain ⟨inf', hi', hs'⟩ := eqT_info he
          have key : ∀ (r s : Nat), s + r = n → xs.take (s * k') = ys.take (s * k') →
              (forIn (m := Sem) (List.range' s r) ((none, ()) : Option Bool × Unit) fun i _ => do
                let a ← part e (xs.map (Value.int .i64)).toArray (i * inf'.size)
                let b ← part e (ys.map (Value.int .i64)).toArray (i * inf'.size)
                let r ← Op.equalIn (d + m) e a b
                if !r then pure (ForInStep.done (some false, ())) else pure (ForInStep.yield (none, ()))).run P w = .ok (if xs = ys then (none, ()) else (some false, ())) w := by
            intro r
            induction r with
            | zero =>
              intro s hs heq
              have hs : s = n := by omega
              subst hs
              have : xs = ys := by rw [← List.take_of_length_le (Nat.le_of_eq hx), ← List.take_of_length_le (Nat.le_of_eq hy)]; exact heq
              simp [this]
            | succ r ihr =>
              intro s hs heq
              have hle : s * k' + k' ≤ n * k' := by
                calc s * k' + k' = (s + 1) * k' := by rw [Nat.add_mul, Nat.one_mul]
                  _ ≤ n * k' := Nat.mul_le_mul_right _ (by omega)
              rw [List.range'_succ, List.forIn_cons]
              simp only [Sem.run_bind, hs', part_ints he xs (s * k') (by omega) w, part_ints he ys (s * k') (by omega) w, Result.andThen_ok,
                ih e k' he m ((xs.drop (s * k')).take k') ((ys.drop (s * k')).take k') (by simp; omega) (by simp; omega) w]
              by_cases e1 : (xs.drop (s * k')).take k' = (ys.drop (s * k')).take k'
              · simp only [e1, decide_true, Bool.not_true, Bool.false_eq_true, if_false, Sem.run_pure, Result.andThen_ok]
                have := ihr (s + 1) (by omega) (by rw [Nat.add_mul, Nat.one_mul, List.take_add, List.take_add, heq, e1])
                simp only [hs'] at this
                exact this
              · have hne : xs ≠ ys := fun h => e1 (by rw [h])
                simp only [e1, decide_false, Bool.not_false, if_true, Sem.run_pure, Result.andThen_ok, hne, if_false]
          have := key n 0 (by omega) (by simp)
          simp only [Op.equalIn, Sem.run_bind, run_underlying ht, Result.andThen_ok, run_sizeOf hi']
          simp only [Std.Legacy.Range.forIn_eq_forIn_range', Std.Legacy.Range.size]
          simp only [Nat.sub_zero, Nat.add_sub_cancel, Nat.div_one]
          rw [this]
          by_cases e1 : xs = ys
          · simp [e1]
          · simp [e1]
        · cases h
      · cases h
    · rename_i fs ht
      split at h
      · cases h
      rename_i hst
      have hst : P.stoodInHeld t = false := by simpa using hst
      split at h
      · rename_i k' hfold
        split at h
        · cases h
          simp only [valI, ht]
          have hfo : P.fieldsOf t = fs := by simp [Program.fieldsOf, ht]
          rw [run_equalIn_struct w (d + m) t _ _ (by rw [hfo]; exact ht) hst, hfo]
          have hfold' : fs.toList.foldl (fieldsT P d) (some 0) = some k := hfold
          rw [(run_eqFields (m := m) ih w fs.toList 0 k xs ys hfold' (by omega) (by omega) rfl).2]
          rw [List.take_of_length_le (by omega), List.take_of_length_le (by omega)]
        · cases h
      · cases h
    · cases h
/-- Two of them held against one another. -/
theorem good_eqAgg {op : BinOp} {x y : Operand} {t t' : TypeId} {l r : List Cell} {xs ys : List Int} {k : Nat} (ho : o.op = .binOp op t x y t') (hk : eqT P 8 t = some k) (hg : P.eqGuardType P.depth t = false) (hag : isAggT P t = some true)
    (hop : op = .eql ∨ op = .neq) (h1 : Opd regs x (.s (.agg l))) (h2 : Opd regs y (.s (.agg r))) (hl : l.length = k) (hr' : r.length = k) (hxl : xs.length = k) (hyl : ys.length = k)
    (hxs : ∀ t, t < k → l[0 + t]? = some (.v (.int .i64 (xs.getD t 0)))) (hys : ∀ t, t < k → r[0 + t]? = some (.v (.int .i64 (ys.getD t 0)))) :
    Good P o regs bs nx (.s (.c (.v (.bool (if op = .eql then beqL xs ys else !beqL xs ys))))) [] [] [] nx :=
  good_pure (sub_nil _) fun F hs ρ w hr hw => by
    have e1 := ints_agg hl hxl hxs (hr x (by simp [ho, Op.operands]) _ h1)
    have e2 := ints_agg hr' hyl hys (hr y (by simp [ho, Op.operands]) _ h2)
    have hv : ∀ zs : List Int, valI P t zs = .agg (zs.map (Value.int .i64)).toArray := by
      intro zs
      unfold valI
      unfold isAggT at hag
      split at hag <;> simp_all
    have hrun : (Op.equalIn 10000 t (.agg (xs.map (Value.int .i64)).toArray) (.agg (ys.map (Value.int .i64)).toArray)).run P w = .ok (decide (xs = ys)) w := by
      have := run_eqT 8 t k hk 9992 xs ys hxl hyl w
      rw [hv, hv] at this
      exact this
    refine ⟨_, ?_, rfl, rfl⟩
    simp only [execOp, ho, e1, e2]
    rw [Sem.run_bind, Sem.run_bind, run_eqGuard_agg w op t x y _ _ hg]
    rcases hop with rfl | rfl
    · simp only [Result.andThen_ok, run_eql_struct, hrun, beqL_dec, if_true]
      rfl
    · simp only [Result.andThen_ok, run_neq_struct, hrun, beqL_dec]
      rfl
theorem good_nilcmp {op : BinOp} {x y : Operand} {t e t' : TypeId} {n q : Nat} {tt : Bool} {g : Nat → Nat → Cell} {k : RV → Prop} (ho : o.op = .binOp op t x y t') (ht : P.underlying t = some (.slice e)) (h1 : Opd regs x (.s (.c (.ro n q tt g))))
    (h2 : Opd regs y (.s (.c (.v (.slice none 0 0))))) (h : nilcmpK op n k) : ∃ rv, k rv ∧ Good P o regs bs nx rv [] [] [] nx := by
  have hrun : ∀ (a : Option Addr) (c : Nat) (w : World), (Op.equal t (.slice a n c) (.slice none 0 0)).run P w = .ok a.isNone w := by
    intro a c w
    have : ∀ d, (Op.equalIn (d + 1) t (.slice a n c) (.slice none 0 0)).run P w = .ok a.isNone w := by
      intro d
      cases a with
      | none => simp [Op.equalIn, run_underlying ht]
      | some a => simp [Op.equalIn, run_underlying ht]
    exact this 9999
  have key : ∀ (rv : RV), (op = .eql ∨ op = .neq) → (∀ (b : Bool) (O : Nat → Prop) (w : World) (hs : Names), (0 < n → b = false) → RVRel O w rv hs (.bool (if op = .eql then b else !b))) → Good P o regs bs nx rv [] [] [] nx := by
    intro rv hop hrv
    refine good_pure (sub_nil _) fun F hs ρ w hr hw => ?_
    obtain ⟨a, c, e1, e2, e3, e4, e5⟩ := hr x (by simp [ho, Op.operands]) _ h1
    have e6 := rel_v (hr y (by simp [ho, Op.operands]) _ h2)
    refine ⟨.bool (if op = .eql then a.isNone else !a.isNone), ?_, hrv a.isNone _ _ _ fun hn => ?_⟩
    · rcases hop with rfl | rfl
      · simp [execOp, ho, e1, e6, eqGuard, binOp, hrun]
      · simp [execOp, ho, e1, e6, eqGuard, binOp, hrun]
    · obtain ⟨b, off, rfl, _⟩ := e5 hn
      rfl
  unfold nilcmpK at h
  split at h
  · rcases Nat.eq_zero_or_pos n with hn | hn
    · exact ⟨_, h.2 hn, key _ (.inl rfl) fun b O w hs _ => ⟨_, rfl⟩⟩
    · exact ⟨_, h.1 hn, key _ (.inl rfl) fun b O w hs hb => by rw [hb hn]; exact ⟨rfl, rfl⟩⟩
  · rcases Nat.eq_zero_or_pos n with hn | hn
    · exact ⟨_, h.2 hn, key _ (.inr rfl) fun b O w hs _ => ⟨_, rfl⟩⟩
    · exact ⟨_, h.1 hn, key _ (.inr rfl) fun b O w hs hb => by rw [hb hn]; exact ⟨rfl, rfl⟩⟩
  · exact h.elim
theorem good_flt {op : BinOp} {x y : Operand} {t t' : TypeId} {a b : Nat} {k : RV → Prop} (ho : o.op = .binOp op t x y t') (h1 : Opd regs x (.s (.c (.v (.float .f64 a))))) (h2 : Opd regs y (.s (.c (.v (.float .f64 b)))))
    (h : fltK op a b k) : ∃ rv, k rv ∧ Good P o regs bs nx rv [] [] [] nx := by
  have key : ∀ (v : Value) (hv : ∀ (O : Nat → Prop) (w : World) (hs : Names), RVRel O w (.s (.c (.v v))) hs v), (∀ w : World, (Go.binOp op t (.float .f64 a) (.float .f64 b)).run P w = .ok v w) → (∀ w : World, (eqGuard op t x y (.float .f64 a) (.float .f64 b)).run P w = .ok () w) → Good P o regs bs nx (.s (.c (.v v))) [] [] [] nx := by
    intro v hv hrun hgd
    refine good_pure (sub_nil _) fun F hs ρ w hr hw => ?_
    have e1 := rel_v (hr x (by simp [ho, Op.operands]) _ h1)
    have e2 := rel_v (hr y (by simp [ho, Op.operands]) _ h2)
    refine ⟨v, ?_, hv _ _ _⟩
    simp only [execOp, ho, e1, e2]
    rw [Sem.run_bind, Sem.run_bind, hgd]
    simp only [Result.andThen_ok, hrun]
    rfl
  have hg : ∀ w : World, (eqGuard op t x y (.float .f64 a) (.float .f64 b)).run P w = .ok () w := by
    intro w
    unfold eqGuard
    split <;> rfl
  have hf : FloatKind.f64.format = Ieee.double := rfl
  unfold fltK at h
  split at h
  · refine ⟨_, h, key _ (fun _ _ _ => ⟨rfl, rfl⟩) (fun w => ?_) hg⟩; simp [binOp, Op.floatCmp, hf, fEq]
  · refine ⟨_, h, key _ (fun _ _ _ => ⟨rfl, rfl⟩) (fun w => ?_) hg⟩; simp [binOp, Op.floatCmp, hf, fEq]; rfl
  · refine ⟨_, h, key _ (fun _ _ _ => ⟨rfl, rfl⟩) (fun w => ?_) hg⟩; simp [binOp, Op.floatCmp, hf, fLt]
  · refine ⟨_, h, key _ (fun _ _ _ => ⟨rfl, rfl⟩) (fun w => ?_) hg⟩; simp [binOp, Op.floatCmp, hf, fGt]
  · refine ⟨_, h, key _ (fun _ _ _ => ⟨rfl, rfl⟩) (fun w => ?_) hg⟩; simp [binOp, Op.floatCmp, hf, fLt, fEq]
  · refine ⟨_, h, key _ (fun _ _ _ => ⟨rfl, rfl⟩) (fun w => ?_) hg⟩; simp [binOp, Op.floatCmp, hf, fGt, fEq]
  · obtain ⟨hk, h⟩ := h
    refine ⟨_, h, key _ (fun _ _ _ => ⟨rfl, rfl⟩) (fun w => ?_) hg⟩
    unfold fAddOk at hk
    obtain ⟨r, hr⟩ := Option.isSome_iff_exists.1 hk
    simp [binOp, Op.floatArith, hf, fAdd, hr]
  · obtain ⟨hk, h⟩ := h
    refine ⟨_, h, key _ (fun _ _ _ => ⟨rfl, rfl⟩) (fun w => ?_) hg⟩
    unfold fDivOk at hk
    obtain ⟨r, hr⟩ := Option.isSome_iff_exists.1 hk
    simp [binOp, Op.floatArith, hf, fDiv, hr]
  · exact h.elim
theorem good_str {op : BinOp} {x y : Operand} {t t' : TypeId} {a b : ByteArray} {k : RV → Prop} (ho : o.op = .binOp op t x y t') (h1 : Opd regs x (.s (.c (.v (.string a))))) (h2 : Opd regs y (.s (.c (.v (.string b)))))
    (h : strK op a b k) : ∃ rv, k rv ∧ Good P o regs bs nx rv [] [] [] nx := by
  have key : ∀ (v : Value) (hv : ∀ (O : Nat → Prop) (w : World) (hs : Names), RVRel O w (.s (.c (.v v))) hs v), (∀ w : World, (Go.binOp op t (.string a) (.string b)).run P w = .ok v w) → (∀ w : World, (eqGuard op t x y (.string a) (.string b)).run P w = .ok () w) → Good P o regs bs nx (.s (.c (.v v))) [] [] [] nx := by
    intro v hv hrun hgd
    refine good_pure (sub_nil _) fun F hs ρ w hr hw => ?_
    have e1 := rel_v (hr x (by simp [ho, Op.operands]) _ h1)
    have e2 := rel_v (hr y (by simp [ho, Op.operands]) _ h2)
    refine ⟨v, ?_, hv _ _ _⟩
    simp only [execOp, ho, e1, e2]
    rw [Sem.run_bind, Sem.run_bind, hgd]
    simp only [Result.andThen_ok, hrun]
    rfl
  have hg : ∀ w : World, (eqGuard op t x y (.string a) (.string b)).run P w = .ok () w := by
    intro w
    unfold eqGuard
    split <;> rfl
  unfold strK at h
  split at h
  · refine ⟨_, h, key _ (fun _ _ _ => ⟨rfl, rfl⟩) (fun w => ?_) hg⟩; unfold strEq; simp [binOp, Op.stringOp]
  · refine ⟨_, h, key _ (fun _ _ _ => ⟨rfl, rfl⟩) (fun w => ?_) hg⟩; unfold strEq; simp [binOp, Op.stringOp]
  · exact h.elim
theorem good_cmp {op : BinOp} {x y : Operand} {t t' : TypeId} {vx vy : RV} {k : Kont} (ho : o.op = .binOp op t x y t') (h1 : Opd regs x vx) (h2 : Opd regs y vy) {k' : Prop} (h : cmpK P op t vx vy (fun v => k v [] [] [] nx) k')
    (hb : k' → ∃ rv rd pre pb nx', k rv rd pre pb nx' ∧ Good P o regs bs nx rv rd pre pb nx') : ∃ rv rd pre pb nx', k rv rd pre pb nx' ∧ Good P o regs bs nx rv rd pre pb nx' := by
  unfold cmpK at h
  split at h
  · rename_i l
    split at h
    · rename_i r
      unfold aggcmpK at h
      split at h
      · rename_i hag
        obtain ⟨hok, h⟩ := h
        obtain ⟨hn, hg⟩ := aggOk_spec hok
        split at h
        · rename_i hl hr
          have hl := Nat.eq_of_beq_eq_true hl
          have hr := Nat.eq_of_beq_eq_true hr
          obtain ⟨xs, h, hx1, hx2, hx3⟩ := intsK_spec _ _ _ _ h
          obtain ⟨ys, h, hy1, hy2, hy3⟩ := intsK_spec _ _ _ _ h
          split at h
          · exact ⟨_, _, _, _, _, h, good_eqAgg ho hn hg hag (.inl rfl) h1 h2 hl hr hx1 hy1 hx3 hy3⟩
          · exact ⟨_, _, _, _, _, h, good_eqAgg ho hn hg hag (.inr rfl) h1 h2 hl hr hx1 hy1 hx3 hy3⟩
          · exact h.elim
        · exact h.elim
      · exact h.elim
    · exact h.elim
  · split at h
    · split at h
      · rename_i e ht
        obtain ⟨rv, h3, h4⟩ := good_nilcmp (bs := bs) (nx := nx) ho ht h1 h2 h
        exact ⟨_, _, _, _, _, h3, h4⟩
      · exact h.elim
    · exact h.elim
  · split at h
    · obtain ⟨rv, h3, h4⟩ := good_flt (bs := bs) (nx := nx) ho h1 h2 h
      exact ⟨_, _, _, _, _, h3, h4⟩
    · exact h.elim
  · split at h
    · obtain ⟨rv, h3, h4⟩ := good_str (bs := bs) (nx := nx) ho h1 h2 h
      exact ⟨_, _, _, _, _, h3, h4⟩
    · exact h.elim
  · exact hb h
theorem good_idx {x ix : Operand} {t : TypeId} {vx vi : RV} {k : Kont} (ho : o.op = .index t x ix) (h1 : Opd regs x vx) (h2 : Opd regs ix vi) (h : idxK P t vx vi fun v => k v [] [] [] nx) :
    ∃ rv rd pre pb nx', k rv rd pre pb nx' ∧ Good P o regs bs nx rv rd pre pb nx' := by
  unfold idxK at h
  split at h
  · rename_i len e l q i ht
    split at h
    · rename_i he
      obtain ⟨inf, hi, h⟩ := sizeK_spec h
      split at h
      · rename_i hm hl
        have hm := Nat.eq_of_beq_eq_true hm
        have hl := Nat.eq_of_beq_eq_true hl
        obtain ⟨hb, h⟩ := h
        obtain ⟨xs, h, hx1, hx2, hx3⟩ := intsK_spec _ _ _ _ h
        exact ⟨_, _, _, _, _, h, good_index ho ht he hi hm h1 h2 hb hl hx1 hx3⟩
      · exact h.elim
    · exact h.elim
  · rename_i s q i ht
    obtain ⟨hb, h⟩ := h
    refine ⟨_, _, _, _, _, h, good_pure (sub_nil _) fun F hs ρ w hr hw => ⟨.int .u8 (strAt s i.toNat), ?_, rfl, rfl⟩⟩
    have e1 := rel_v (hr x (by simp [ho, Op.operands]) _ h1)
    have e2 := rel_v (hr ix (by simp [ho, Op.operands]) _ h2)
    have hlt : i.toNat < s.size := by
      have := hb.2
      unfold strLen at this
      omega
    have e3 : s[i.toNat]? = some s[i.toNat] := getElem?_pos s i.toNat hlt
    have e4 : s.data.getD i.toNat 0 = s[i.toNat] := by
      show s.data.getD i.toNat 0 = s.get i.toNat hlt
      rw [Array.getD_eq_getD_getElem?, Array.getElem?_eq_getElem (show i.toNat < s.data.size from hlt)]
      rfl
    simp only [execOp, ho, e1, e2]
    unfold strAt
    rw [e4]
    simp [Instr.index, asIntOf, run_underlying ht, hb.1, e3]
  · exact h.elim
end
end Go.Eng
namespace Go.Eng
open Go
theorem AllPair.tail {e : MapEntry} {es : List MapEntry} (h : AllPair (e :: es)) : AllPair es := fun x hx => h x (by simp [hx])
theorem lookP_cons {e : MapEntry} {es : List MapEntry} {x y c : Int} (h1 : e.key = pairV x y) (h2 : e.val = .int .i64 c) (a b : Int) :
    lookP (e :: es) a b = if a = x ∧ b = y then some c else lookP es a b := by
  have hk : keyI e.key = (x, y) := by rw [h1]; rfl
  have hv : valI1 e.val = c := by rw [h2]; rfl
  rw [lookP, hk, hv]
  by_cases q : a = x ∧ b = y
  · rw [if_pos q, if_pos (by rw [q.1, q.2])]
  · rw [if_neg q, if_neg (fun z => q ⟨congrArg Prod.fst z, congrArg Prod.snd z⟩)]
section
variable {P : Program}
structure PairOk (P : Program) (kt : TypeId) : Prop where
  eq : eqT P 8 kt = some 2
  fs : ∃ f g : Field, P.underlying kt = some (.struct #[f, g]) ∧ eqT P 7 f.type = some 1 ∧ eqT P 7 g.type = some 1 ∧ f.offset = 0 ∧ g.offset = 1 ∧ P.underlying f.type = some (.int .i64) ∧ P.underlying g.type = some (.int .i64)
theorem pairT_spec {kt : TypeId} (h : pairT P kt = true) : PairOk P kt := by
  unfold pairT at h
  split at h
  · rename_i fs hu
    split at h
    · rename_i f g hl
      simp only [Bool.and_eq_true, beq_iff_eq] at h
      obtain ⟨⟨⟨⟨⟨⟨h1, h2⟩, h3⟩, h4⟩, h5⟩, h6⟩, h7⟩ := h
      have hfs : fs = #[f, g] := Array.toList_inj.1 hl
      subst hfs
      refine ⟨h7, f, g, hu, h3, h4, h1, h2, ?_, ?_⟩
      · unfold intT at h5; split at h5
        · assumption
        · cases h5
      · unfold intT at h6; split at h6
        · assumption
        · cases h6
    · cases h
  · cases h
theorem valI_pair {kt : TypeId} (hp : PairOk P kt) (a b : Int) : valI P kt [a, b] = pairV a b := by
  obtain ⟨_, f, g, hu, _⟩ := hp
  unfold valI
  rw [hu]; rfl
theorem run_equal_pair {kt : TypeId} (hp : PairOk P kt) (a b x y : Int) (w : World) : (Op.equal kt (pairV a b) (pairV x y)).run P w = .ok (decide (a = x ∧ b = y)) w := by
  have := run_eqT 8 kt 2 hp.eq 9992 [a, b] [x, y] rfl rfl w
  rw [valI_pair hp, valI_pair hp] at this
  show (Op.equalIn (8 + 9992) kt _ _).run P w = _
  rw [this]
  congr 1
  simp
theorem run_checkKey_pair {kt : TypeId} (hp : PairOk P kt) (e : Bool) (a b : Int) (w : World) : (Instr.checkKey e 10000 kt (pairV a b)).run P w = .ok () w := by
  obtain ⟨_, f, g, hu, h1, h2, h3, h4, h5, h6⟩ := hp
  rw [show (10000 : Nat) = 9999 + 1 from rfl]
  have c1 : ∀ v, (Instr.checkKey e 9999 f.type v).run P w = .ok () w := fun v => by
    rw [show (9999 : Nat) = 9998 + 1 from rfl]
    unfold Instr.checkKey
    rw [Sem.run_bind, run_underlying h5]
    rfl
  have c2 : ∀ v, (Instr.checkKey e 9999 g.type v).run P w = .ok () w := fun v => by
    rw [show (9999 : Nat) = 9998 + 1 from rfl]
    unfold Instr.checkKey
    rw [Sem.run_bind, run_underlying h6]
    rfl
  have p1 := part_ints h1 [a, b] 0 (by simp) w
  have p2 := part_ints h2 [a, b] 1 (by simp) w
  have ev : ([a, b].map (Value.int .i64)).toArray = #[Value.int .i64 a, Value.int .i64 b] := rfl
  rw [ev] at p1 p2
  unfold Instr.checkKey
  rw [Sem.run_bind, run_underlying hu]
  simp only [Result.andThen_ok, pairV]
  rw [← Array.forIn_toList]
  simp only [List.forIn_cons, List.forIn_nil, Sem.run_bind, h3, h4]
  by_cases n1 : f.name = "_" <;> by_cases n2 : g.name = "_" <;> simp [n1, n2, p1, p2, c1, c2, Sem.run_bind]
theorem findAsking_spec {kt : TypeId} (hp : PairOk P kt) (a b : Int) : ∀ (es : List MapEntry) (i : Nat), AllPair es →
    (lookP es a b = none ∧ ∀ w, (Instr.findAsking kt (pairV a b) es i).run P w = .ok none w) ∨
    ∃ n c e, lookP es a b = some c ∧ (∀ w, (Instr.findAsking kt (pairV a b) es i).run P w = .ok (some (i + n, .int .i64 c)) w) ∧ es[n]? = some e ∧ e.key = pairV a b ∧
      ∀ x, AllPair (es.modify n fun e => { e with key := pairV a b, val := .int .i64 x }) ∧
        ∀ a' b', lookP (es.modify n fun e => { e with key := pairV a b, val := .int .i64 x }) a' b' = if a' = a ∧ b' = b then some x else lookP es a' b'
  | [], i, _ => .inl ⟨rfl, fun w => rfl⟩
  | e :: es, i, h => by
    obtain ⟨x, y, c, h1, h2⟩ := h e (by simp)
    by_cases hab : a = x ∧ b = y
    · refine .inr ⟨0, c, e, ?_, fun w => ?_, rfl, by rw [h1, hab.1, hab.2], fun z => ⟨?_, fun a' b' => ?_⟩⟩
      · rw [lookP_cons h1 h2, if_pos hab]
      · unfold Instr.findAsking
        rw [Sem.run_bind, h1, run_equal_pair hp]
        simp [hab, h2]
      · intro q hq
        simp at hq
        rcases hq with rfl | hq
        · exact ⟨a, b, z, rfl, rfl⟩
        · exact h q (by simp [hq])
      · simp only [List.modify_zero_cons]
        rw [lookP_cons rfl rfl, lookP_cons h1 h2]
        rw [hab.1, hab.2]
        split <;> rfl
    · rcases findAsking_spec hp a b es (i + 1) h.tail with ⟨h3, h4⟩ | ⟨n, d, e', h3, h4, h5, h6, h7⟩
      · refine .inl ⟨by rw [lookP_cons h1 h2, if_neg hab, h3], fun w => ?_⟩
        unfold Instr.findAsking
        rw [Sem.run_bind, h1, run_equal_pair hp]
        simp only [Result.andThen_ok, decide_eq_false hab, Bool.false_eq_true, if_false]
        exact h4 w
      · refine .inr ⟨n + 1, d, e', by rw [lookP_cons h1 h2, if_neg hab, h3], fun w => ?_, by simpa using h5, h6, fun z => ⟨?_, fun a' b' => ?_⟩⟩
        · unfold Instr.findAsking
          rw [Sem.run_bind, h1, run_equal_pair hp]
          simp only [Result.andThen_ok, decide_eq_false hab, Bool.false_eq_true, if_false]
          rw [h4 w]
          congr 3
          omega
        · intro q hq
          simp only [List.modify_succ_cons, List.mem_cons] at hq
          rcases hq with rfl | hq
          · exact ⟨x, y, c, h1, h2⟩
          · exact (h7 z).1 q hq
        · simp only [List.modify_succ_cons]
          rw [lookP_cons h1 h2, lookP_cons h1 h2, (h7 z).2 a' b']
          by_cases e1 : a' = x ∧ b' = y
          · rw [if_pos e1, if_pos e1, if_neg (fun q : a' = a ∧ b' = b => hab ⟨q.1.symm.trans e1.1, q.2.symm.trans e1.2⟩)]
          · rw [if_neg e1, if_neg e1]
theorem lookP_push (es : List MapEntry) (h : AllPair es) (a b x : Int) (t : Nat) (hn : lookP es a b = none) :
    AllPair (es ++ [{ key := pairV a b, val := .int .i64 x, born := t }]) ∧
    ∀ a' b', lookP (es ++ [{ key := pairV a b, val := .int .i64 x, born := t }]) a' b' = if a' = a ∧ b' = b then some x else lookP es a' b' := by
  refine ⟨fun y hy => ?_, fun a' b' => ?_⟩
  · simp at hy
    rcases hy with hy | rfl
    · exact h y hy
    · exact ⟨a, b, x, rfl, rfl⟩
  · induction es with
    | nil => rw [List.nil_append, lookP_cons rfl rfl]
    | cons e es ih =>
      obtain ⟨u, v, c, h1, h2⟩ := h e (by simp)
      rw [lookP_cons h1 h2] at hn
      have hab : ¬ (a = u ∧ b = v) := by intro e1; rw [if_pos e1] at hn; cases hn
      rw [if_neg hab] at hn
      rw [List.cons_append, lookP_cons h1 h2, lookP_cons h1 h2, ih h.tail hn]
      by_cases e1 : a' = u ∧ b' = v
      · rw [if_pos e1, if_pos e1, if_neg (fun q : a' = a ∧ b' = b => hab ⟨q.1.symm.trans e1.1, q.2.symm.trans e1.2⟩)]
      · rw [if_neg e1, if_neg e1]
theorem run_findKey_pair {kt : TypeId} (hp : PairOk P kt) (a b : Int) (es : List MapEntry) (h : AllPair es) (w : World) : (Instr.findKey kt (pairV a b) es).run P w = (Instr.findAsking kt (pairV a b) es 0).run P w := by
  obtain ⟨_, f, g, hu, _⟩ := hp
  unfold Instr.findKey
  rw [Sem.run_bind, run_underlying hu]
  simp only [Result.andThen_ok]
  cases es with
  | nil => rfl
  | cons e es =>
    have : Instr.findNow (.struct #[f, g]) (pairV a b) (e :: es) 0 = none := by
      simp [Instr.findNow, Instr.sameNow]
    rw [this]
theorem run_lookup_pair {t kt et : TypeId} {inf : TypeInfo} (ht : P.underlying t = some (.map kt et)) (hp : PairOk P kt) (hi : P.info? et = some inf) (hz : inf.zero = some (.int .i64 0))
    {w : World} {r : Nat} {es : Array MapEntry} {clk : Nat} {f : Int → Int → Option Int} (hr : w.heap[r]? = some (.map es clk)) (hm : PMap es f) (a b : Int) (ok : Bool) :
    (Instr.lookup t (.map (some r)) (pairV a b) ok).run P w = .ok (if ok then .tuple #[.int .i64 ((f a b).getD 0), .bool (f a b).isSome] else .int .i64 ((f a b).getD 0)) w := by
  simp only [Instr.lookup, Sem.run_bind, run_underlying ht, Result.andThen_ok, run_getObj_map hr, Sem.run_pure, run_checkKey_pair hp, run_findKey_pair hp a b es.toList hm.1]
  rcases findAsking_spec hp a b es.toList 0 hm.1 with ⟨h1, h2⟩ | ⟨n, c, e, h1, h2, _⟩
  · rw [h2, hm.2 a b, h1]
    simp [zeroValue, typeInfo, hi, hz]
  · rw [h2, hm.2 a b, h1]
    simp
theorem run_mapUpdate_pair {t kt et : TypeId} (ht : P.underlying t = some (.map kt et)) (hp : PairOk P kt)
    {w : World} {r : Nat} {es : Array MapEntry} {clk : Nat} {f : Int → Int → Option Int} (hr : w.heap[r]? = some (.map es clk)) (hm : PMap es f) (a b x : Int) :
    ∃ es' clk', (Instr.mapUpdate t (.map (some r)) (pairV a b) (.int .i64 x)).run P w = .ok () { w with heap := w.heap.setIfInBounds r (.map es' clk') } ∧
      PMap es' (fun a' b' => if a' = a ∧ b' = b then some x else f a' b') := by
  have hso : ∀ ob, (setObj r ob).run P w = .ok () { w with heap := w.heap.setIfInBounds r ob } := by
    intro ob
    simp [setObj, Sem.run, hr]
  simp only [Instr.mapUpdate, Sem.run_bind, run_underlying ht, Result.andThen_ok, run_getObj_map hr, run_checkKey_pair hp, run_findKey_pair hp a b es.toList hm.1]
  rcases findAsking_spec hp a b es.toList 0 hm.1 with ⟨h1, h2⟩ | ⟨n, c, e, h1, h2, h3, h4, h5⟩
  · rw [h2]
    simp only [Result.andThen_ok, hso]
    obtain ⟨h6, h7⟩ := lookP_push es.toList hm.1 a b x clk h1
    refine ⟨_, _, rfl, ?_, fun a' b' => ?_⟩
    · simpa using h6
    · simp only [Array.toList_push]
      rw [h7 a' b', hm.2 a' b']
  · rw [h2]
    simp only [Result.andThen_ok, Nat.zero_add]
    have he : ((es[n]?).map (·.key)).getD (pairV a b) = pairV a b := by
      have : es[n]? = some e := by simpa using h3
      rw [this]; simp [h4]
    have hks : (Instr.keyThatStays (((es[n]?).map (·.key)).getD (pairV a b)) (pairV a b)).run P w = .ok (pairV a b) w := by
      rw [he]
      simp [Instr.keyThatStays, Instr.sameBits, pairV]
    simp only [Sem.run_bind, hks, Result.andThen_ok, hso]
    refine ⟨_, _, rfl, ?_, fun a' b' => ?_⟩
    · have := (h5 x).1
      simpa using this
    · have := (h5 x).2 a' b'
      simp only [Array.toList_modify]
      rw [this, hm.2 a' b']
end
section
variable {P : Program} {o : Oper} {regs : List RV} {bs : List (Nat × Blk)} {nx : Nat} {rv : RV}
theorem good_makeMapP {t kt et : TypeId} (ho : o.op = .makeMap t none) (_ht : P.underlying t = some (.map kt et)) :
    Good P o regs bs nx (.s (.c (.mp nx))) [] [] [(nx, .pmap fun _ _ => none)] (nx + 1) := by
  refine good_new (sub_nil _) fun F hs ρ w hr hw => ⟨.map (some w.heap.size), .map (some w.heap.size), w.alloc (.map #[] 0), ?_, fr_alloc _ _, ?_, ?_, ?_⟩
  · simp only [execOp, ho]
    simp [Instr.makeMap, newObj, Sem.run]
  · intro hs' O' _ _ _
    exact ⟨w.heap.size, #[], 0, rfl, alloc_new _ _, fun e he => by simp at he, fun a b => rfl⟩
  · intro x hx; simp [owner] at hx; omega
  · intro hs' O' _ hn _
    exact ⟨hn, _, rfl⟩
/-- Two numbers in a register are the pair. -/
theorem agg_pair {F : Nat → Prop} {hs : Names} {w : World} {l : List Cell} {xs : List Int} {v : Value} (h : RVRel F w (.s (.agg l)) hs v) (hl : l.length = 2) (hx : xs.length = 2) (hxs : ∀ t, t < 2 → l[0 + t]? = some (.v (.int .i64 (xs.getD t 0)))) : v = pairV (xs.getD 0 0) (xs.getD 1 0) := by
  have e1 := ints_agg hl hx hxs h
  rw [e1]
  match xs, hx with
  | [x, y], _ => rfl
theorem good_lookupP {t kt et : TypeId} {m ix : Operand} {ok : Bool} {inf : TypeInfo} {j : Nat} {l : List Cell} {xs : List Int} {f : Int → Int → Option Int} (ho : o.op = .lookup t m ix ok)
    (ht : P.underlying t = some (.map kt et)) (hp : PairOk P kt) (hi : P.info? et = some inf) (hz : inf.zero = some (.int .i64 0))
    (hm : Opd regs m (.s (.c (.mp j)))) (hx : Opd regs ix (.s (.agg l))) (hl : l.length = 2) (hx2 : xs.length = 2) (hxs : ∀ t, t < 2 → l[0 + t]? = some (.v (.int .i64 (xs.getD t 0)))) (hb : look bs j = some (.pmap f))
    (hv : rv = if ok then .tup [.c (.v (.int .i64 ((f (xs.getD 0 0) (xs.getD 1 0)).getD 0))), .c (.v (.bool (f (xs.getD 0 0) (xs.getD 1 0)).isSome))] else .s (.c (.v (.int .i64 ((f (xs.getD 0 0) (xs.getD 1 0)).getD 0))))) :
    Good P o regs bs nx rv [(j, .pmap f)] [] [] nx := by
  refine good_pure (sub_one hb) fun F hs ρ w hr hw => ?_
  obtain ⟨e1, _⟩ := hr m (by simp [ho, Op.operands]) _ hm
  have e2 := agg_pair (hr ix (by simp [ho, Op.operands]) _ hx) hl hx2 hxs
  obtain ⟨u, hu, r, es, clk, e3, e4, e5⟩ := hw.blk j (.pmap f) (by simp [look])
  rw [e1] at hu
  simp only [Option.some.injEq] at hu
  generalize xs.getD 0 0 = a at *
  generalize xs.getD 1 0 = b at *
  refine ⟨if ok then .tuple #[.int .i64 ((f a b).getD 0), .bool (f a b).isSome] else .int .i64 ((f a b).getD 0), ?_, ?_⟩
  · simp only [execOp, ho, e2, hu, e3]
    rw [Sem.run_bind, run_lookup_pair ht hp hi hz e4 e5]
    rfl
  · subst hv
    cases ok
    · exact ⟨rfl, rfl⟩
    · refine ⟨_, rfl, rfl, fun i c u hc hu => ?_⟩
      match i, hc, hu with
      | 0, hc, hu => simp at hc hu; subst hc; subst hu; exact ⟨rfl, rfl⟩
      | 1, hc, hu => simp at hc hu; subst hc; subst hu; exact ⟨rfl, rfl⟩
      | i + 2, hc, hu => simp at hc
theorem good_mapUpdateP {t kt et : TypeId} {m ix x : Operand} {j : Nat} {c : Int} {l : List Cell} {xs : List Int} {f : Int → Int → Option Int} (ho : o.op = .mapUpdate t m ix x)
    (ht : P.underlying t = some (.map kt et)) (hp : PairOk P kt)
    (hm : Opd regs m (.s (.c (.mp j)))) (hi : Opd regs ix (.s (.agg l))) (hl : l.length = 2) (hx2 : xs.length = 2) (hxs : ∀ t, t < 2 → l[0 + t]? = some (.v (.int .i64 (xs.getD t 0)))) (hx : Opd regs x (.s (.c (.v (.int .i64 c))))) (hb : look bs j = some (.pmap f)) :
    Good P o regs bs nx .un [] [(j, .pmap f)] [(j, .pmap fun a' b' => if a' = xs.getD 0 0 ∧ b' = xs.getD 1 0 then some c else f a' b')] nx := by
  refine good_upd hb fun F hs ρ w h hr hw hh hbr => ?_
  obtain ⟨e1, _⟩ := hr m (by simp [ho, Op.operands]) _ hm
  have e2 := agg_pair (hr ix (by simp [ho, Op.operands]) _ hi) hl hx2 hxs
  have e6 := rel_v (hr x (by simp [ho, Op.operands]) _ hx)
  obtain ⟨r, es, clk, e3, e4, e5⟩ := hbr
  rw [e1] at hh
  simp only [Option.some.injEq] at hh
  obtain ⟨es', clk', h1, h2⟩ := run_mapUpdate_pair ht hp e4 e5 (xs.getD 0 0) (xs.getD 1 0) c
  have hlt : r < w.heap.size := (Array.getElem?_eq_some_iff.1 e4).1
  refine ⟨undef, { w with heap := w.heap.setIfInBounds r (.map es' clk') }, .inr ⟨?_, rfl⟩, ?_, fun y hy => by rw [e3] at hy ⊢; simpa [owner] using hy, fun O' _ _ => ?_, fun O' _ => rfl⟩
  · simp only [execOp, ho, e2, e6, hh, e3]
    rw [Sem.run_bind, h1]
    rfl
  · refine ⟨rfl, rfl, rfl, by simp, fun y hy hn => ?_⟩
    have : ¬ r = y := fun e => hn (by rw [e3, ← e]; rfl)
    simp [Array.getElem?_setIfInBounds, this]
  · refine ⟨r, es', clk', e3, by simp [hlt], h2⟩
end
end Go.Eng
namespace Go.Eng
open Go
section
variable {P : Program} {o : Oper} {regs : List RV} {bs : List (Nat × Blk)} {nx : Nat}
theorem bool_case {vc : RV} {A : Bool → Prop} (h : match vc with | .s (.c (.v (.bool t))) => A t | _ => False) : ∃ t, vc = .s (.c (.v (.bool t))) ∧ A t := by
  split at h
  · exact ⟨_, rfl, h⟩
  · exact h.elim
theorem i64_case {s : Sv} {A : Int → Prop} (h : match s with | .c (.v (.int .i64 x)) => A x | _ => False) : ∃ x, s = .c (.v (.int .i64 x)) ∧ A x := by
  split at h
  · exact ⟨_, rfl, h⟩
  · exact h.elim
theorem int2_case {vx vy : RV} {A : IntKind → Int → IntKind → Int → Prop} {B : Bool → Bool → Prop}
    (h : match vx, vy with | .s (.c (.v (.int q a))), .s (.c (.v (.int q' b))) => A q a q' b | .s (.c (.v (.bool a))), .s (.c (.v (.bool b))) => B a b | _, _ => False) :
    (∃ q a q' b, vx = .s (.c (.v (.int q a))) ∧ vy = .s (.c (.v (.int q' b))) ∧ A q a q' b) ∨ ∃ a b, vx = .s (.c (.v (.bool a))) ∧ vy = .s (.c (.v (.bool b))) ∧ B a b := by
  split at h
  · exact .inl ⟨_, _, _, _, rfl, rfl, h⟩
  · exact .inr ⟨_, _, rfl, rfl, h⟩
  · exact h.elim
theorem run_equal_bool {t : TypeId} (ht : P.underlying t = some .bool) (a b : Bool) (w : World) : (Op.equal t (.bool a) (.bool b)).run P w = .ok (a == b) w := by
  have h : ∀ d, (Op.equalIn (d + 1) t (.bool a) (.bool b)).run P w = .ok (a == b) w := by
    intro d
    unfold Op.equalIn
    simp [run_underlying ht]
  exact h 9999
theorem good_eqB {op : BinOp} {x y : Operand} {t t' : TypeId} {a b : Bool} {k : RV → Prop} (ho : o.op = .binOp op t x y t') (h1 : Opd regs x (.s (.c (.v (.bool a))))) (h2 : Opd regs y (.s (.c (.v (.bool b)))))
    (h : eqBK P op t (.s (.c (.v (.bool a)))) (.s (.c (.v (.bool b)))) k) : ∃ v, k v ∧ Good P o regs bs nx v [] [] [] nx := by
  unfold eqBK at h
  simp only at h
  split at h
  · rename_i ht
    refine ⟨_, h, good_pure (sub_nil _) fun F hs ρ w hr hw => ⟨.bool (a == b), ?_, rfl, rfl⟩⟩
    have e1 := rel_v (hr x (by simp [ho, Op.operands]) _ h1)
    have e2 := rel_v (hr y (by simp [ho, Op.operands]) _ h2)
    simp [execOp, ho, e1, e2, eqGuard, binOp, run_equal_bool ht]
  · rename_i ht
    refine ⟨_, h, good_pure (sub_nil _) fun F hs ρ w hr hw => ⟨.bool (a != b), ?_, rfl, rfl⟩⟩
    have e1 := rel_v (hr x (by simp [ho, Op.operands]) _ h1)
    have e2 := rel_v (hr y (by simp [ho, Op.operands]) _ h2)
    simp [execOp, ho, e1, e2, eqGuard, binOp, run_equal_bool ht, bne]
  · exact h.elim
theorem good_store_pix {a x : Operand} {t : TypeId} {j base len : Nat} {i' : Int} {s : Sv} {i : TypeInfo} {k : List (Nat × Blk) → List (Nat × Blk) → Prop} (ho : o.op = .store t a x) (ha : Opd regs a (.s (.c (.pix j base len i')))) (hx : Opd regs x (.s s))
    (hi : P.info? t = some i) (hn : i.size = s.cells.length)
    (h : match (generalizing := false) s with
      | .c (.v (.int .i64 x)) => lookK bs j fun b => match b with
        | .row ty l => intsK l base len fun xs => setIntsK i' x xs 0 fun cs => ovrK l base cs fun r => k [(j, .row ty l)] [(j, .row ty r)]
        | _ => False
      | _ => False) : ∃ pre pb, k pre pb ∧ Good P o regs bs nx .un [] pre pb nx := by
  obtain ⟨x', rfl, h⟩ := i64_case (A := fun x => lookK bs j fun b => match b with
        | .row ty l => intsK l base len fun xs => setIntsK i' x xs 0 fun cs => ovrK l base cs fun r => k [(j, .row ty l)] [(j, .row ty r)]
        | _ => False) h
  obtain ⟨b, hb, h⟩ := lookK_spec _ _ _ h
  split at h
  · rename_i ty l
    obtain ⟨xs, h1, h2, h3, h4⟩ := intsK_spec _ _ _ _ h
    obtain ⟨cs, h5, h6, h7⟩ := setIntsK_spec _ _ _ _ _ h1
    obtain ⟨r, h8, h9, h10, h11⟩ := ovrK_spec _ _ _ _ h5
    by_cases hin : 0 ≤ i' ∧ i' < len
    · refine ⟨_, _, h8, good_store_row (off := base + i'.toNat) ho ha hx hi hn hb (fun O w hs u hu => ?_) h9 ?_ fun m => ?_⟩
      · obtain ⟨b, h12, _, _, h13⟩ := hu
        exact ⟨b, h12, h13⟩
      · simp [Sv.cells]; omega
      · rw [h11 m]
        change _ = if base + i'.toNat ≤ m ∧ m < base + i'.toNat + 1 then [Cell.v (Value.int IntKind.i64 x')][m - (base + i'.toNat)]? else l[m]?
        rw [h6, h2]
        by_cases hm : base ≤ m ∧ m < base + len
        · rw [if_pos hm, h7 (m - base) (by rw [h2]; omega)]
          split
          · rename_i he
            have e1 : m - (base + i'.toNat) = 0 := by omega
            rw [e1, if_pos (by omega)]
            rfl
          · rename_i he
            rw [if_neg (by omega)]
            have := h4 (m - base) (by omega)
            rw [show base + (m - base) = m by omega] at this
            exact this.symm
        · rw [if_neg hm, if_neg (by omega)]
    · -- the address lies in the array: this does not come up
      refine ⟨_, _, h8, ⟨?_, ?_, ?_, Nat.le_refl _, fun F hs ρ w hr hw hf => ?_⟩⟩
      · simpa using sub_one hb
      · intro i c h; simp [look] at h ⊢; exact h.1
      · intro i c h
        simp [look] at h
        exact .inl ⟨.row ty l, by simp [look, h.1]⟩
      · obtain ⟨b, _, h12, h13, _⟩ := hr a (by simp [ho, Op.operands]) _ ha
        exact (hin ⟨h12, h13⟩).elim
  · exact h.elim
theorem good_store {a x : Operand} {t : TypeId} {va : RV} {s : Sv} {k : List (Nat × Blk) → List (Nat × Blk) → Prop} (ho : o.op = .store t a x) (ha : Opd regs a va) (hx : Opd regs x (.s s)) (h : storeK P bs t va s k) :
    ∃ pre pb, k pre pb ∧ Good P o regs bs nx .un [] pre pb nx := by
  unfold storeK at h
  obtain ⟨i, hi, h⟩ := sizeK_spec h
  split at h
  case h_2 => exact h.elim
  rename_i hn
  have hn := Nat.eq_of_beq_eq_true hn
  split at h
  · rename_i j off
    obtain ⟨b, hb, h⟩ := lookK_spec _ _ _ h
    split at h
    · rename_i ty l
      obtain ⟨r, h1, h2, h3, h4⟩ := ovrK_spec _ _ _ _ h
      exact ⟨_, _, h1, good_store_row ho ha hx hi hn hb (fun O w hs u hu => rel_ptr hu) h2 h3 h4⟩
    · exact h.elim
  · rename_i j q p t0
    obtain ⟨b, hb, h⟩ := lookK_spec _ _ _ h
    split at h
    · rename_i ty q' m g
      split at h
      · rename_i hq hle
        have hle := Nat.le_of_ble_eq_true hle
        have hq := Nat.eq_of_beq_eq_true hq
        subst hq
        obtain ⟨hcl, hp, h⟩ := closedK_spec _ _ h
        exact ⟨_, _, h, good_store_slc ho ha hx hi hn hcl hb hp hle⟩
      · exact h.elim
    · exact h.elim
  · exact good_store_pix ho ha hx hi hn h
  · exact h.elim
theorem good_bin {op : BinOp} {x y : Operand} {t t' : TypeId} {vx vy : RV} {k : Kont} (ho : o.op = .binOp op t x y t') (h1 : Opd regs x vx) (h2 : Opd regs y vy)
    (h : binK P op t vx vy fun v => k v [] [] [] nx) : ∃ rv rd pre pb nx', k rv rd pre pb nx' ∧ Good P o regs bs nx rv rd pre pb nx' := by
  unfold binK at h
  rcases int2_case (B := fun a b => eqBK P op t (.s (.c (.v (.bool a)))) (.s (.c (.v (.bool b)))) fun v => k v [] [] [] nx) (A := fun q a q' b => match (generalizing := false) decide (q = q') with
    | true => match (generalizing := false) op with
      | .shl => False
      | .shr => False
      | op => intOp op q a b fun v => k (.s (.c (.v v))) [] [] [] nx
    | false => False) h with ⟨q, a, q', b, rfl, rfl, hh⟩ | ⟨a, b, rfl, rfl, hh⟩
  case inr =>
    obtain ⟨v, h3, h4⟩ := good_eqB (bs := bs) (nx := nx) ho h1 h2 hh
    exact ⟨_, _, _, _, _, h3, h4⟩
  clear h
  have h := hh
  clear hh
  cases hd : decide (q = q') with
  | true =>
    rw [hd] at h
    have hq := of_decide_eq_true hd
    subst hq
    have key : intOp op q a b (fun v => k (.s (.c (.v v))) [] [] [] nx) → ∃ rv rd pre pb nx', k rv rd pre pb nx' ∧ Good P o regs bs nx rv rd pre pb nx' := by
      intro h
      obtain ⟨v, h3, h4⟩ := good_binInt (bs := bs) (nx := nx) ho h1 h2 h
      exact ⟨_, _, _, _, _, h3, h4⟩
    cases op <;> first | exact key h | exact h.elim
  | false =>
    rw [hd] at h
    exact h.elim
theorem lo_spec {lo : Option Operand} {K : Int → Prop} (h : stepK.sliceLo regs lo K) : ∃ a, K a ∧ ((lo = none ∧ a = 0) ∨ ∃ y q, lo = some y ∧ Opd regs y (.s (.c (.v (.int q a))))) := by
  unfold stepK.sliceLo at h
  split at h
  · exact ⟨_, h, .inl ⟨rfl, rfl⟩⟩
  · obtain ⟨v, h1, h⟩ := opK_spec _ _ _ h
    split at h
    · exact ⟨_, h, .inr ⟨_, _, rfl, h1⟩⟩
    · exact h.elim
theorem hi_spec {hi : Option Operand} {n : Nat} {K : Int → Prop} (h : stepK.sliceHi regs hi n K) : ∃ a, K a ∧ ((hi = none ∧ a = n) ∨ ∃ y q, hi = some y ∧ Opd regs y (.s (.c (.v (.int q a))))) := by
  unfold stepK.sliceHi at h
  split at h
  · exact ⟨_, h, .inl ⟨rfl, rfl⟩⟩
  · obtain ⟨v, h1, h⟩ := opK_spec _ _ _ h
    split at h
    · exact ⟨_, h, .inr ⟨_, _, rfl, h1⟩⟩
    · exact h.elim
theorem good_slice {t : TypeId} {x : Operand} {lo hi : Option Operand} {k : Kont} (ho : o.op = .slice t x lo hi none)
    (h : match P.underlying t with
    | some (.slice e) => opK regs x fun vx => sizeK P e fun m => readsK bs vx fun n q g rd => match Nat.beq m q with
      | true => stepK.sliceLo regs lo fun a => stepK.sliceHi regs hi n fun b =>
        Need (0 ≤ a ∧ a ≤ b ∧ b ≤ n) (stepK.fzK rd fun pb => k (.s (.c (.ro (b - a).toNat q (stepK.tightOf vx hi) fun i t => g (a.toNat + i) t))) [] rd pb nx)
      | false => False
    | some (.array len e) => opK regs x fun vx => sizeK P e fun m => slArrK regs vx len m lo hi fun v => k v [] [] [] nx
    | _ => False) : ∃ rv rd pre pb nx', k rv rd pre pb nx' ∧ Good P o regs bs nx rv rd pre pb nx' := by
  split at h
  case h_3 => exact h.elim
  case h_2 =>
    rename_i len e ht
    obtain ⟨vx, h1, h⟩ := opK_spec _ _ _ h
    obtain ⟨inf, hi', h⟩ := sizeK_spec h
    unfold slArrK at h
    split at h
    · split at h
      · obtain ⟨vz, h2, h⟩ := opK_spec _ _ _ h
        split at h
        · obtain ⟨b', hb', hk⟩ := litI_spec h
          subst hb'
          split at hk
          · rename_i hlt1 hlt2
            have hlt1 := Nat.le_of_ble_eq_true hlt1
            have hlt2 := Nat.le_of_ble_eq_true hlt2
            exact ⟨_, _, _, _, _, hk, good_slArrHi ho ht h1 hi' h2 hlt1 hlt2⟩
          · exact hk.elim
        · exact h.elim
      · exact h.elim
    · split at h
      · split at h
        · rename_i hlt
          have hlt := Nat.le_of_ble_eq_true hlt
          have hg := good_slArr (bs := bs) (nx := nx) (a := 0) ho ht h1 hi' (.inl ⟨rfl, rfl⟩) (by omega)
          rw [Nat.zero_mul, Nat.add_zero, Nat.sub_zero] at hg
          exact ⟨_, _, _, _, _, h, hg⟩
        · exact h.elim
      · obtain ⟨vy, h2, h⟩ := opK_spec _ _ _ h
        split at h
        · unfold litI at h
          split at h
          · have h := litK_spec _ _ _ _ h
            split at h
            · rename_i hlt
              have hlt := Nat.le_of_ble_eq_true hlt
              have h := litK_spec _ _ _ _ h
              have h := litK_spec _ _ _ _ h
              exact ⟨_, _, _, _, _, h, good_slArr ho ht h1 hi' (.inr ⟨_, _, rfl, h2⟩) (by omega)⟩
            · exact h.elim
          · exact h.elim
        · exact h.elim
    · exact h.elim
  rename_i e ht
  obtain ⟨vx, h1, h⟩ := opK_spec _ _ _ h
  obtain ⟨inf, hi', h⟩ := sizeK_spec h
  obtain ⟨n, q, g, rd, h, hsub, hrd, hread⟩ := readsK_spec h
  split at h
  case h_2 => exact h.elim
  rename_i hq
  have hq := Nat.eq_of_beq_eq_true hq
  obtain ⟨a, h, hlo⟩ := lo_spec h
  obtain ⟨b, h, hhi⟩ := hi_spec h
  obtain ⟨⟨h2, h3, h4⟩, h⟩ := h
  have hfin : k (.s (.c (.ro (b - a).toNat q (stepK.tightOf vx hi) fun i t => g (a.toNat + i) t))) [] rd (fzL rd) nx := by
    unfold stepK.fzK at h
    rcases hrd with ⟨rfl, _⟩ | ⟨j, ty, rfl, _⟩ | ⟨j, rfl, _⟩ <;> exact h
  refine ⟨_, _, _, _, _, hfin, good_cut ho ht h1 hi' hq ?_ hlo hhi (.inl rfl) h2 h3 h4⟩
  rcases hrd with ⟨rfl, t', rfl⟩ | ⟨j, ty, rfl, rfl, hj⟩ | ⟨j, rfl, rfl, hj⟩
  · refine .inl ⟨rfl, t', rfl, fun htt => .inr ?_⟩
    unfold stepK.tightOf at htt
    rcases hhi with ⟨rfl, rfl⟩ | ⟨y, q', rfl, _⟩
    · exact ⟨htt, rfl⟩
    · cases htt
  · exact .inr (.inl ⟨j, ty, rfl, rfl, hj, fun htt => by unfold stepK.tightOf at htt; cases htt⟩)
  · exact .inr (.inr ⟨j, rfl, rfl, hj, fun htt => by unfold stepK.tightOf at htt; cases htt⟩)
theorem good_slice3 {t : TypeId} {x hi mx : Operand} {lo : Option Operand} {k : Kont} (ho : o.op = .slice t x lo (some hi) (some mx))
    (h : match P.underlying t with
    | some (.slice e) => opK regs x fun vx => sizeK P e fun m => readsK bs vx fun n q g rd => match Nat.beq m q with
      | true => stepK.sliceLo regs lo fun a => stepK.sliceHi regs (some hi) n fun b => stepK.sliceHi regs (some mx) n fun c =>
        Need (0 ≤ a ∧ a ≤ b ∧ b ≤ n ∧ c = b) (stepK.fzK rd fun pb => k (.s (.c (.ro (b - a).toNat q true fun i t => g (a.toNat + i) t))) [] rd pb nx)
      | false => False
    | _ => False) : ∃ rv rd pre pb nx', k rv rd pre pb nx' ∧ Good P o regs bs nx rv rd pre pb nx' := by
  split at h
  case h_2 => exact h.elim
  rename_i e ht
  obtain ⟨vx, h1, h⟩ := opK_spec _ _ _ h
  obtain ⟨inf, hi', h⟩ := sizeK_spec h
  obtain ⟨n, q, g, rd, h, hsub, hrd, hread⟩ := readsK_spec h
  split at h
  case h_2 => exact h.elim
  rename_i hq
  have hq := Nat.eq_of_beq_eq_true hq
  obtain ⟨a, h, hlo⟩ := lo_spec h
  obtain ⟨b, h, hhi⟩ := hi_spec h
  obtain ⟨c, h, hmx⟩ := hi_spec h
  obtain ⟨⟨h2, h3, h4, rfl⟩, h⟩ := h
  have hfin : k (.s (.c (.ro (c - a).toNat q true fun i t => g (a.toNat + i) t))) [] rd (fzL rd) nx := by
    unfold stepK.fzK at h
    rcases hrd with ⟨rfl, _⟩ | ⟨j, ty, rfl, _⟩ | ⟨j, rfl, _⟩ <;> exact h
  have hmx2 : ∃ y q z q', some mx = some y ∧ Opd regs y (.s (.c (.v (.int q c)))) ∧ some hi = some z ∧ Opd regs z (.s (.c (.v (.int q' c)))) := by
    rcases hhi with ⟨e1, _⟩ | ⟨y, q1, e1, h5⟩
    · cases e1
    · rcases hmx with ⟨e2, _⟩ | ⟨z, q2, e2, h6⟩
      · cases e2
      · exact ⟨z, q2, y, q1, e2, h6, e1, h5⟩
  refine ⟨_, _, _, _, _, hfin, good_cut ho ht h1 hi' hq ?_ hlo hhi (.inr hmx2) h2 h3 h4⟩
  rcases hrd with ⟨rfl, t', rfl⟩ | ⟨j, ty, rfl, rfl, hj⟩ | ⟨j, rfl, rfl, hj⟩
  · exact .inl ⟨rfl, t', rfl, fun _ => .inl ⟨_, rfl⟩⟩
  · exact .inr (.inl ⟨j, ty, rfl, rfl, hj, fun _ => ⟨_, rfl⟩⟩)
  · exact .inr (.inr ⟨j, rfl, rfl, hj, fun _ => ⟨_, rfl⟩⟩)
theorem good_append {c : Call} {vs : List RV} {k : Kont} (hlt : ∀ j b, look bs j = some b → j < nx) (ho : o.op = .call c) (hc : c.callee = .builtin .append) (hl : vs.length = c.args.toList.length)
    (hv : ∀ (i : Nat) y u, c.args.toList[i]? = some y → vs[i]? = some u → Opd regs y u)
    (h : match (generalizing := false) vs, c.argTypes.toList with
      | [v, x], [t, t'] => match Nat.beq t t', P.underlying t with
        | true, some (.slice e) => match P.info? e with
          | some i => zeroK P e fun z => readsK bs x fun m q g2 rd => match Nat.beq i.size z.length, Nat.ble 1 i.size, Nat.beq q i.size with
            | true, true, true => match v with
              | .s (.c (.v (.slice none 0 0))) =>
                Need (m ≤ 9223372036854775807 ∧ m * i.bytes ≤ 140737488355328) (litK 400 0 (nx + 1) fun nx' => k (.s (.c (.osl nx))) rd [] [(nx, .slc e q m g2)] nx')
              | .s (.c (.osl j)) => lookK bs j fun b => match b with
                | .slc ty q' n g => match Nat.beq q q', Nat.beq ty e with
                  | true, true => Need (n + m ≤ 9223372036854775807 ∧ (n + m) * i.bytes ≤ 140737488355328)
                    (litK 400 0 (nx + 1) fun nx' => k (.s (.c (.osl nx))) rd [(j, .slc ty q' n g)] [(j, .gone), (nx, .slc e q (n + m) (catG n g g2))] nx')
                  | _, _ => False
                | _ => False
              | .s (.c (.ro n q' true g)) => match Nat.beq q q' with
                | true => Need (0 < m ∧ n + m ≤ 9223372036854775807 ∧ (n + m) * i.bytes ≤ 140737488355328)
                  (litK 400 0 (nx + 1) fun nx' => k (.s (.c (.osl nx))) rd [] [(nx, .slc e q (n + m) (catG n g g2))] nx')
                | false => False
              | _ => False
            | _, _, _ => False
          | none => False
        | _, _ => False
      | _, _ => False) : ∃ rv rd pre pb nx', k rv rd pre pb nx' ∧ Good P o regs bs nx rv rd pre pb nx' := by
  split at h
  case h_2 => exact h.elim
  rename_i v x t t' hty
  split at h
  case h_2 => exact h.elim
  rename_i e htt hu
  have htt := Nat.eq_of_beq_eq_true htt
  subst htt
  split at h
  case h_2 => exact h.elim
  rename_i i hi
  obtain ⟨i', z, hi', hz, h, hz1⟩ := zeroK_spec h
  rw [hi] at hi'; cases hi'
  obtain ⟨m, q, g2, rd, h, hsub, hrd, hread⟩ := readsK_spec h
  split at h
  case h_2 => exact h.elim
  rename_i hs hp hq
  have hs := Nat.eq_of_beq_eq_true hs
  have hp := Nat.le_of_ble_eq_true hp
  have hq := Nat.eq_of_beq_eq_true hq
  subst hq
  have hzs : z.cells.size = i.size := by simpa using hs.symm
  split at h
  · obtain ⟨⟨h1, h2⟩, h⟩ := h
    exact ⟨_, _, _, _, _, litK_spec _ _ _ _ h, good_append_nil ho hc hl hv hty hu hi hz hzs hp hsub hread (by simpa [maxLen] using h1) h2⟩
  · rename_i j
    obtain ⟨b, hb, h⟩ := lookK_spec _ _ _ h
    split at h
    · rename_i ty q' n g
      split at h
      · rename_i hq' hty'
        have hq' := Nat.eq_of_beq_eq_true hq'
        have hty' := Nat.eq_of_beq_eq_true hty'
        subst hq' hty'
        obtain ⟨⟨h1, h2⟩, h⟩ := h
        exact ⟨_, _, _, _, _, litK_spec _ _ _ _ h, good_append_own ho hc hl hv hty hu hi hz hzs hp hsub hb (hlt _ _ hb) hread (by simpa [maxLen] using h1) h2⟩
      · exact h.elim
    · exact h.elim
  · rename_i n q' g
    split at h
    · rename_i hq'
      have hq' := Nat.eq_of_beq_eq_true hq'
      subst hq'
      obtain ⟨⟨h0, h1, h2⟩, h⟩ := h
      exact ⟨_, _, _, _, _, litK_spec _ _ _ _ h, good_append_tight ho hc hl hv hty hu hi hz hzs hp hsub h0 hread (by simpa [maxLen] using h1) h2⟩
    · exact h.elim
  · exact h.elim
theorem stepK_sound {Γ : FuncId → Option FSpec} (hΓ : GOK P Γ) {k : Kont} (hlt : ∀ j b, look bs j = some b → j < nx) (h : stepK P Γ o regs bs nx k) :
    ∃ rv rd pre pb nx', k rv rd pre pb nx' ∧ Good P o regs bs nx rv rd pre pb nx' := by
  unfold stepK at h
  split at h
  · rename_i x ho
    obtain ⟨v, h1, h2⟩ := opK_spec _ _ _ h
    exact ⟨_, _, _, _, _, h2, good_move (.inl ho) h1⟩
  · rename_i x ho
    obtain ⟨v, h1, h2⟩ := opK_spec _ _ _ h
    exact ⟨_, _, _, _, _, h2, good_move (.inr ho) h1⟩
  · rename_i c a b ho
    obtain ⟨vc, h1, h⟩ := opK_spec _ _ _ h
    obtain ⟨va, h2, h⟩ := opK_spec _ _ _ h
    obtain ⟨vb, h3, h⟩ := opK_spec _ _ _ h
    obtain ⟨t, rfl, h⟩ := bool_case (A := fun t => Br t (k va [] [] [] nx) (k vb [] [] [] nx)) h
    cases t with
    | true => exact ⟨_, _, _, _, _, h, good_pick ho h1 h2 h3 rfl⟩
    | false => exact ⟨_, _, _, _, _, h, good_pick ho h1 h2 h3 rfl⟩
  · rename_i e ho
    obtain ⟨i, z, hi, hz, h, h1⟩ := zeroK_spec h
    exact ⟨_, _, _, _, _, litK_spec _ _ _ _ h, good_alloc ho hi hz h1⟩
  · rename_i e x ho
    obtain ⟨v, h1, h⟩ := opK_spec _ _ _ h
    split at h
    · exact ⟨_, _, _, _, _, litK_spec _ _ _ _ h, good_box ho h1⟩
    · exact h.elim
  · rename_i t parts ho
    obtain ⟨l, h1, h2⟩ := good_build (bs := bs) (nx := nx) ho h
    exact ⟨_, _, _, _, _, h1, h2⟩
  · rename_i t len parts ho
    split at h
    · rename_i e ht
      obtain ⟨i, hi, h⟩ := sizeK_spec h
      split at h
      · rename_i hl hs hp
        have hl := Nat.eq_of_beq_eq_true hl
        have hs := Nat.le_of_ble_eq_true hs
        have hp := Nat.le_of_ble_eq_true hp
        obtain ⟨i', z, hi', hz, h, _⟩ := zeroK_spec h
        rw [hi] at hi'; cases hi'
        obtain ⟨l, h1, h2⟩ := good_buildSlice (bs := bs) (nx := nx) ho ht hi hz hl hs hp h
        exact ⟨_, _, _, _, _, litK_spec _ _ _ _ h1, h2⟩
      · exact h.elim
    · exact h.elim
  · rename_i t a ho
    obtain ⟨va, h1, h⟩ := opK_spec _ _ _ h
    obtain ⟨v, rd, h2, h3⟩ := good_load (nx := nx) ho h1 h
    exact ⟨_, _, _, _, _, h2, h3⟩
  · rename_i t a x ho
    obtain ⟨va, h1, h⟩ := opK_spec _ _ _ h
    obtain ⟨vx, h2, h⟩ := opK_spec _ _ _ h
    split at h
    · obtain ⟨pre, pb, h3, h4⟩ := good_store (nx := nx) ho h1 h2 h
      exact ⟨_, _, _, _, _, h3, h4⟩
    · exact h.elim
  · rename_i x ho
    obtain ⟨vx, h1, h⟩ := opK_spec _ _ _ h
    split at h
    · exact ⟨_, _, _, _, _, h, good_nilCheck ho h1 fun O w hs u hu => by obtain ⟨b, _, rfl⟩ := hu; exact .inl ⟨_, rfl⟩⟩
    · exact ⟨_, _, _, _, _, h, good_nilCheck ho h1 fun O w hs u hu => by obtain ⟨b, off, rfl, _⟩ := hu; exact .inl ⟨_, rfl⟩⟩
    · exact ⟨_, _, _, _, _, h, good_nilCheck ho h1 fun O w hs u hu => by obtain ⟨b, n, c, _, _, rfl⟩ := hu; exact .inl ⟨_, rfl⟩⟩
    · exact ⟨_, _, _, _, _, h, good_nilCheck ho h1 fun O w hs u hu => by obtain ⟨b, _, _, _, rfl⟩ := hu; exact .inl ⟨_, rfl⟩⟩
    · exact ⟨_, _, _, _, _, h, good_nilCheck ho h1 fun O w hs u hu => by obtain ⟨b, _, _, _, rfl⟩ := hu; exact .inl ⟨_, rfl⟩⟩
    · exact ⟨_, _, _, _, _, h, good_nilCheck ho h1 fun O w hs u hu => by obtain ⟨b, rfl, _⟩ := hu; exact .inr ⟨_, _, rfl⟩⟩
    · exact h.elim
  · rename_i op t x y t' ho
    obtain ⟨vx, h1, h⟩ := opK_spec _ _ _ h
    obtain ⟨vy, h2, h⟩ := opK_spec _ _ _ h
    exact good_cmp ho h1 h2 h fun h => good_bin ho h1 h2 h
  · rename_i t x ix ho
    obtain ⟨vx, h1, h⟩ := opK_spec _ _ _ h
    obtain ⟨vi, h2, h⟩ := opK_spec _ _ _ h
    exact good_idx ho h1 h2 h
  · rename_i op t x ho
    obtain ⟨vx, h1, h⟩ := opK_spec _ _ _ h
    split at h
    · exact ⟨_, _, _, _, _, h, good_unOp_not ho h1⟩
    · exact ⟨_, _, _, _, _, h, good_unOp_neg ho h1⟩
    · exact h.elim
  · rename_i src dst x ho
    obtain ⟨vx, h1, h⟩ := opK_spec _ _ _ h
    split at h
    · rename_i hs hd
      exact ⟨_, _, _, _, _, h, good_convert ho hd (by rw [hs]; rfl) h1⟩
    · exact h.elim
  · rename_i d x ho
    obtain ⟨vx, h1, h⟩ := opK_spec _ _ _ h
    split at h
    · rename_i hd
      split at h
      · rename_i hle
        exact ⟨_, _, _, _, _, h, good_arrPtr ho hd (Nat.le_of_ble_eq_true hle) h1⟩
      · exact h.elim
    · exact h.elim
  · rename_i f first captured ho
    split at h
    · rename_i h0
      obtain ⟨vs, h1, h2, h3⟩ := opsK_spec _ _ _ h
      have key : ∀ (vs : List RV) (K : List Cap → Prop), capsK vs K → ∃ cs, K cs ∧ vs = cs.map Cap.rv := by
        intro vs
        induction vs with
        | nil => intro K h; exact ⟨[], h, rfl⟩
        | cons v l ih =>
          intro K h
          unfold capsK at h
          split at h
          · rename_i heq; cases heq
          · rename_i j oo l' heq
            obtain ⟨rfl, rfl⟩ := List.cons.inj heq
            obtain ⟨cs, h4, h5⟩ := ih _ h
            exact ⟨_, h4, by rw [h5]; rfl⟩
          · rename_i xx l' heq
            obtain ⟨rfl, rfl⟩ := List.cons.inj heq
            obtain ⟨cs, h4, h5⟩ := ih _ h
            exact ⟨_, h4, by rw [h5]; rfl⟩
          · exact h.elim
      obtain ⟨cs, h4, h5⟩ := key _ _ h1
      exact ⟨_, _, _, _, _, h4, good_makeFunc ho h0 (by rw [h2]; simp) (fun i x v hx hv => h3 i x v (by simpa using hx) hv) h5⟩
    · split at h
      · rename_i h00 h0
        obtain ⟨vs, h1, h2, h3⟩ := opsK_spec _ _ _ h
        have key : ∀ (vs : List RV) (K : List Cap → Prop), capsK vs K → ∃ cs, K cs ∧ vs = cs.map Cap.rv := by
          intro vs
          induction vs with
          | nil => intro K h; exact ⟨[], h, rfl⟩
          | cons v l ih =>
            intro K h
            unfold capsK at h
            split at h
            · rename_i heq; cases heq
            · rename_i j oo l' heq
              obtain ⟨rfl, rfl⟩ := List.cons.inj heq
              obtain ⟨cs, h4, h5⟩ := ih _ h
              exact ⟨_, h4, by rw [h5]; rfl⟩
            · rename_i xx l' heq
              obtain ⟨rfl, rfl⟩ := List.cons.inj heq
              obtain ⟨cs, h4, h5⟩ := ih _ h
              exact ⟨_, h4, by rw [h5]; rfl⟩
            · exact h.elim
        obtain ⟨cs, h4, h5⟩ := key _ _ h1
        exact ⟨_, _, _, _, _, h4, good_makeFuncB ho h0 (by rw [h2]; simp) (fun i x v hx hv => h3 i x v (by simpa using hx) hv) h5⟩
      · exact h.elim
  · rename_i t ho
    split at h
    · rename_i kt et ht
      split at h
      · exact ⟨_, _, _, _, _, litK_spec _ _ _ _ h, good_makeMapP ho ht⟩
      · exact ⟨_, _, _, _, _, litK_spec _ _ _ _ h, good_makeMap ho ht⟩
    · exact h.elim
  · rename_i t l c ho
    obtain ⟨vl, h1, h⟩ := opK_spec _ _ _ h
    obtain ⟨vc, h2, h⟩ := opK_spec _ _ _ h
    split at h
    · rename_i e a b ht _
      split at h
      · rename_i i hi
        obtain ⟨i', z, hi', hz, h, hz1⟩ := zeroK_spec h
        rw [hi] at hi'; cases hi'
        split at h
        · rename_i hs hp
          have hs := Nat.eq_of_beq_eq_true hs
          have hp := Nat.le_of_ble_eq_true hp
          obtain ⟨⟨h3, rfl, h4, h5⟩, hh⟩ := h
          obtain ⟨l', hh, hweak⟩ := weakK_spec hh
          exact ⟨_, _, _, _, _, litK_spec _ _ _ _ hh, good_makeSlice ho ht h1 h2 hi hz hz1 hs hp h3 h4 h5 hweak⟩
        · exact h.elim
      · exact h.elim
    · exact h.elim
  · rename_i t x lo hi ho
    exact good_slice ho h
  · rename_i t x lo hi mx ho
    exact good_slice3 ho h
  · rename_i s x f ho
    obtain ⟨vx, h1, h⟩ := opK_spec _ _ _ h
    obtain ⟨v, h2, h3⟩ := good_fieldAddr (bs := bs) (nx := nx) ho h1 h
    exact ⟨_, _, _, _, _, h2, h3⟩
  · rename_i s x f ho
    obtain ⟨vx, h1, h⟩ := opK_spec _ _ _ h
    obtain ⟨fs, fl, i, h2, h3, h4, _, h⟩ := fieldK_spec h
    split at h
    · rename_i ha _
      obtain ⟨r, h5, h6, h7, h8⟩ := subK_spec _ _ _ _ h
      exact ⟨_, _, _, _, _, h5, good_field_agg ho h1 h2 h3 h4 ha h6 h7 h8⟩
    · rename_i ha _
      obtain ⟨c, h5, h6⟩ := nthK_spec _ _ _ h
      exact ⟨_, _, _, _, _, h6, good_field_one ho h1 h2 h3 ha h5⟩
    · exact h.elim
  · rename_i t x ix ho
    obtain ⟨vx, h1, h⟩ := opK_spec _ _ _ h
    obtain ⟨vi, h2, h⟩ := opK_spec _ _ _ h
    split at h
    · obtain ⟨v, rd, h3, h4⟩ := good_indexAddr (nx := nx) ho h1 h2 h
      exact ⟨_, _, _, _, _, h3, h4⟩
    · exact h.elim
  · rename_i t m ix ok ho
    split at h
    · rename_i kt et ht
      obtain ⟨vm, h1, h⟩ := opK_spec _ _ _ h
      obtain ⟨vi, h2, h⟩ := opK_spec _ _ _ h
      split at h
      · rename_i j a hk he _
        obtain ⟨b, hb, h⟩ := lookK_spec _ _ _ h
        split at h
        · rename_i f
          split at h
          · rename_i inf hi
            split at h
            · rename_i hz
              cases ok with
              | false => exact ⟨_, _, _, _, _, h, good_lookup ho ht hk hi hz h1 h2 hb rfl⟩
              | true => exact ⟨_, _, _, _, _, h, good_lookup ho ht hk hi hz h1 h2 hb rfl⟩
            · exact h.elim
          · exact h.elim
        · exact h.elim
      · rename_i sf j l hk he _
        obtain ⟨hok, h⟩ := h
        have hp := pairT_spec hok
        split at h
        · rename_i hl
          have hl := Nat.eq_of_beq_eq_true hl
          obtain ⟨xs, h, hx1, hx2, hx3⟩ := intsK_spec _ _ _ _ h
          obtain ⟨b, hb, h⟩ := lookK_spec _ _ _ h
          split at h
          · rename_i f
            split at h
            · rename_i inf hi
              split at h
              · rename_i hz
                cases ok with
                | false => exact ⟨_, _, _, _, _, h, good_lookupP ho ht hp hi hz h1 h2 hl hx1 hx3 hb rfl⟩
                | true => exact ⟨_, _, _, _, _, h, good_lookupP ho ht hp hi hz h1 h2 hl hx1 hx3 hb rfl⟩
              · exact h.elim
            · exact h.elim
          · exact h.elim
        · exact h.elim
      · exact h.elim
    · exact h.elim
  · rename_i t m ix x ho
    split at h
    · rename_i kt et ht
      obtain ⟨vm, h1, h⟩ := opK_spec _ _ _ h
      obtain ⟨vi, h2, h⟩ := opK_spec _ _ _ h
      obtain ⟨vx, h3, h⟩ := opK_spec _ _ _ h
      split at h
      · rename_i j a c hk _ _
        obtain ⟨b, hb, h⟩ := lookK_spec _ _ _ h
        split at h
        · exact ⟨_, _, _, _, _, h, good_mapUpdate ho ht hk h1 h2 h3 hb⟩
        · exact h.elim
      · rename_i sf j l c hk _ _
        obtain ⟨hok, h⟩ := h
        have hp := pairT_spec hok
        split at h
        · rename_i hl
          have hl := Nat.eq_of_beq_eq_true hl
          obtain ⟨xs, h, hx1, hx2, hx4⟩ := intsK_spec _ _ _ _ h
          obtain ⟨b, hb, h⟩ := lookK_spec _ _ _ h
          split at h
          · exact ⟨_, _, _, _, _, h, good_mapUpdateP ho ht hp h1 h2 hl hx1 hx4 h3 hb⟩
          · exact h.elim
        · exact h.elim
      · exact h.elim
    · exact h.elim
  · rename_i x ix ho
    obtain ⟨vx, h1, h⟩ := opK_spec _ _ _ h
    split at h
    · obtain ⟨s, h2, h3⟩ := nthK_spec _ _ _ h
      exact ⟨_, _, _, _, _, h3, good_extract ho h1 h2⟩
    · exact h.elim
  · rename_i c ho
    split at h
    · rename_i hc
      obtain ⟨vs, h, hl, hv⟩ := opsK_spec _ _ _ h
      split at h
      case h_2 => exact h.elim
      rename_i v t hty
      split at h
      · rename_i e hu
        obtain ⟨n, rd, h1, h2⟩ := good_len (nx := nx) ho hc hl hv hty hu h
        exact ⟨_, _, _, _, _, h1, h2⟩
      · rename_i n e hu
        exact ⟨_, _, _, _, _, h, good_len_array ho hc hl hv hty hu⟩
      · rename_i hu
        split at h
        · exact ⟨_, _, _, _, _, h, good_len_str ho hc hl hv hty hu⟩
        · exact h.elim
      · exact h.elim
    · rename_i hc
      obtain ⟨vs, h, hl, hv⟩ := opsK_spec _ _ _ h
      split at h
      · exact ⟨_, _, _, _, _, h, good_min ho hc hl hv⟩
      · exact h.elim
    · rename_i hc
      obtain ⟨vs, h, hl, hv⟩ := opsK_spec _ _ _ h
      split at h
      · exact ⟨_, _, _, _, _, h, good_max ho hc hl hv⟩
      · exact h.elim
    · rename_i hc
      obtain ⟨vs, h, hl, hv⟩ := opsK_spec _ _ _ h
      exact good_append hlt ho hc hl hv h
    · rename_i hc
      obtain ⟨vs, h, hl, hv⟩ := opsK_spec _ _ _ h
      split at h
      case h_3 => exact h.elim
      case h_2 =>
        rename_i j off n q j2 off2 n2 q2 t s hty
        split at h
        case h_2 => exact h.elim
        rename_i e hu
        obtain ⟨b, hb, h⟩ := lookK_spec _ _ _ h
        obtain ⟨b2, hb2, h⟩ := lookK_spec _ _ _ h
        obtain ⟨inf, hi, h⟩ := sizeK_spec h
        split at h
        case h_2 => exact h.elim
        rename_i ty l ty2 l2
        split at h
        case h_2 => exact h.elim
        rename_i hq hq2 hn hj
        have hq := Nat.eq_of_beq_eq_true hq
        have hq2 := Nat.eq_of_beq_eq_true hq2
        have hn := Nat.eq_of_beq_eq_true hn
        have hj : j ≠ j2 := fun e => by subst e; simp at hj
        subst hq2
        subst hn
        have h := litK_spec _ _ _ _ h
        obtain ⟨r, h, h1, h2, h3⟩ := subK_spec _ _ _ _ h
        obtain ⟨r', h, h4, h5, h6⟩ := ovrK_spec _ _ _ _ h
        exact ⟨_, _, _, _, _, h, good_copy_row ho hc hl hv hty hu hi hq hb hb2 hj h1 (fun m hm => (h3 m hm).symm) h4 h5 h6⟩
      rename_i j x t s hty
      split at h
      case h_2 => exact h.elim
      rename_i e hu
      obtain ⟨b, hb, h⟩ := lookK_spec _ _ _ h
      split at h
      case h_2 => exact h.elim
      rename_i ty q n g
      obtain ⟨m, q', g2, rd, h, hsub, hrd, hread⟩ := readsK_spec h
      obtain ⟨inf, hi, h⟩ := sizeK_spec h
      split at h
      case h_2 => exact h.elim
      rename_i hq hq2
      have hq := Nat.eq_of_beq_eq_true hq
      have hq2 := Nat.eq_of_beq_eq_true hq2
      obtain ⟨h1, hh⟩ := h
      subst hq
      subst h1
      exact ⟨_, _, _, _, _, hh, good_copy ho hc hl hv hty hu hi hq2 hb hsub hread⟩
    · rename_i f hc
      obtain ⟨vf, hf, h⟩ := opK_spec _ _ _ h
      obtain ⟨vs, h, hl, hv⟩ := opsK_spec _ _ _ h
      split at h
      · exact good_call hΓ hlt ho hc (.inl hf) hl hv h
      · split at h
        · rename_i h0
          exact good_call hΓ hlt ho hc (.inr ⟨h0, hf⟩) hl hv h
        · exact h.elim
      · exact h.elim
    · exact h.elim
  · exact h.elim
end
end Go.Eng
namespace Go.Eng
open Go
/-- The registers. -/
def Regs (O : Nat → Prop) (w : World) (hs : Names) (R : Nat → Option RV) (tmps : Array Value) : Prop :=
  ∀ t rv, R t = some rv → ∃ u, tmps[t]? = some u ∧ RVRel O w rv hs u
def OpdF (R : Nat → Option RV) (x : Operand) (rv : RV) : Prop :=
  match x with
  | .tmp t => R t = some rv
  | .const v => rv = ofV v ∧ flatV v
  | .func f => rv = .s (.c (.fn f []))
  | .global _ => False
theorem opd_opdF {regs : List RV} {x : Operand} {rv : RV} (h : Opd regs x rv) : OpdF (fun t => regs[t]?) x rv := by
  cases x <;> exact h
theorem ofV_rel {O : Nat → Prop} {w : World} {hs : Names} {v : Value} (h : flatV v) : RVRel O w (ofV v) hs v := by
  cases v with
  | agg cs =>
    refine ⟨cs, rfl, by simp, fun i c u hc hu => ?_⟩
    simp only [List.getElem?_map, Option.map_eq_some_iff] at hc
    obtain ⟨x, hx, rfl⟩ := hc
    have : x = u := by
      rw [Array.getElem?_toList] at hx
      rw [hx] at hu; exact Option.some.inj hu
    subst this
    exact ⟨rfl, h x (by simpa using Array.mem_of_getElem? hu)⟩
  | _ => exact ⟨rfl, h⟩
theorem eval_rel {O : Nat → Prop} {w : World} {hs : Names} {R : Nat → Option RV} {a : Act} (hr : Regs O w hs R a.tmps) {x : Operand} {rv : RV} (h : OpdF R x rv) : RVRel O w rv hs (a.eval x) := by
  cases x with
  | tmp t =>
    obtain ⟨u, h1, h2⟩ := hr t rv h
    show RVRel O w rv hs (a.tmps.getD t undef)
    rw [Array.getD_eq_getD_getElem?, h1]
    exact h2
  | const v =>
    obtain ⟨rfl, h⟩ := h
    exact ofV_rel h
  | func f =>
    have h : rv = .s (.c (.fn f [])) := h
    subst h
    exact ⟨#[], rfl, rfl, fun i c x hc => by simp at hc⟩
  | global g => exact h.elim
/-- The part B of C, with the rest forbidden. -/
theorem part_rep {F : Nat → Prop} {hs : Names} {B C : Mem} {w : World} (hsub : Sub B C) (hC : WRep F hs C w) :
    (∀ x, Osum F hs C x ↔ Osum (fun x => F x ∨ own hs (fun j => match B j with | some _ => none | none => C j) x) hs B x) ∧
    WRep (fun x => F x ∨ own hs (fun j => match B j with | some _ => none | none => C j) x) hs B w := by
  have hrest : ∀ j b, (match B j with | some _ => (none : Option Blk) | none => C j) = some b → B j = none ∧ C j = some b := by
    intro j b hj
    cases hB : B j with
    | some _ => rw [hB] at hj; cases hj
    | none => rw [hB] at hj; exact ⟨rfl, hj⟩
  have hO0 : ∀ x, Osum F hs C x ↔ Osum (fun x => F x ∨ own hs (fun j => match B j with | some _ => none | none => C j) x) hs B x := by
    intro x
    constructor
    · rintro (hx | ⟨j, b, u, hb, hu, ho⟩)
      · exact .inl (.inl hx)
      · cases hB : B j with
        | some b0 =>
          have := hsub j b0 hB
          rw [hb] at this; cases this
          exact .inr ⟨j, b, u, hB, hu, ho⟩
        | none => exact .inl (.inr ⟨j, b, u, by simp [hB, hb], hu, ho⟩)
    · rintro ((hx | hx) | ⟨j, b, u, hb, hu, ho⟩)
      · exact .inl hx
      · obtain ⟨j, b, u, hb, hu, ho⟩ := hx
        obtain ⟨hn, hc⟩ := hrest j b hb
        exact .inr ⟨j, b, u, hc, hu, ho⟩
      · exact .inr ⟨j, b, u, hsub j b hb, hu, ho⟩
  have hOeq : Osum F hs C = Osum (fun x => F x ∨ own hs (fun j => match B j with | some _ => none | none => C j) x) hs B := funext fun x => propext (hO0 x)
  refine ⟨hO0, ⟨?_, ?_, ?_, ?_⟩⟩
  · intro j b hj
    obtain ⟨u, hu, hr⟩ := hC.blk j b (hsub j b hj)
    exact ⟨u, hu, by rw [← hOeq]; exact hr⟩
  · intro i j bi bj ui uj x hbi hbj hui huj hoi hoj
    exact hC.sep i j bi bj ui uj x (hsub i bi hbi) (hsub j bj hbj) hui huj hoi hoj
  · rintro x (hx | ⟨j, b, u, hb, hu, ho⟩)
    · exact hC.lt x hx
    · exact own_lt hC ⟨j, b, u, (hrest j b hb).2, hu, ho⟩
  · rintro x (hx | ⟨j, b, u, hb, hu, ho⟩) ⟨i, bi, ui, hbi, hui, hoi⟩
    · exact hC.apart x hx ⟨i, bi, ui, hsub i bi hbi, hui, hoi⟩
    · obtain ⟨hn, hc⟩ := hrest j b hb
      have := hC.sep i j bi b ui u x (hsub i bi hbi) hc hui hu hoi ho
      subst this
      rw [hn] at hbi; cases hbi
/-- A fence that lets all in: that of a call, or of a round. -/
inductive Free : Fence → Prop where
  | wide : Free Fence.wide
  | round (l : Nat) : Free (Fence.wide.inRound l)
theorem Free.fn {Φ : Fence} (h : Free Φ) (f : FuncId) : Φ.fn f := by cases h <;> trivial
theorem Free.depth {Φ : Fence} (h : Free Φ) {n : Nat} : Φ.depth.isSome = true → 1 ≤ n := by cases h <;> (intro h; cases h)
theorem Free.calls {Φ : Fence} (h : Free Φ) {n : Nat} {P : Program} {f : FuncId} {args : Array Value} {w : World} {R : Ending → World → Prop} (hc : Calls P f args w R) : CallsIn Φ n P f args w R := by
  cases h with
  | wide => exact callsIn_wide.2 hc
  | round l =>
    have h : CallsIn Fence.wide n P f args w R := callsIn_wide.2 hc
    exact h
theorem yield_defer {P : Program} {R : Value → World → Prop} {o : Oper} {c : Call} (ho : o.op = .defer c) {ρ : Operand → Value} {w : World} (h : Yield P R ((execOp ρ o).run P w)) : False := by
  unfold execOp at h
  rw [ho] at h
  simp only [Sem.run_bind] at h
  cases hr : (resolve ρ c o.type).run P w with
  | ok a w' => rw [hr] at h; simp [Result.andThen, Yield] at h
  | halt x w' => rw [hr] at h; exact h
theorem Free.sem {Φ : Fence} (hΦ : Free Φ) {P : Program} {R : Value → World → Prop} {o : Oper} {ρ : Operand → Value} {w : World} (h : Yield P R ((execOp ρ o).run P w)) : o.semAt Φ.round ρ = execOp ρ o := by
  cases hΦ with
  | wide => exact Oper.semAt_none _ _
  | round l => exact Oper.semAt_some _ _ _ fun c hc => yield_defer hc h
/-- Where the marks of a function's ranges lie, what it has deferred before, and whether there are no marks. -/
structure Dfr where
  n : Nat
  tl : List Deferred
  no : Bool
instance : Coe Nat Dfr := ⟨fun n => ⟨n, [], false⟩⟩
instance (k : Nat) : OfNat Dfr k := ⟨⟨k, [], false⟩⟩
/-- Marks of ranges over functions, ahead of what was deferred before. -/
def DOK (b : Dfr) (ds : List Deferred) (w : World) : Prop := ∃ Ds : List Nat, ds = Ds.map (fun D => { target := .collected D, args := #[] }) ++ b.tl ∧ Ds.Nodup ∧ (∀ D ∈ Ds, b.n ≤ D ∧ w.heap[D]? = some (.deferred (some []))) ∧ (b.no = true → Ds = [])
theorem DOK.tail (b : Dfr) (w : World) : DOK b b.tl w := ⟨[], rfl, List.nodup_nil, (fun D h => by cases h), fun _ => rfl⟩
theorem DOK.nil (b : Nat) (w : World) : DOK b [] w := ⟨[], rfl, List.nodup_nil, (fun D h => by cases h), fun _ => rfl⟩
theorem DOK.none {b : Dfr} {ds : List Deferred} {w : World} (h : DOK b ds w) (hn : b.no = true) : ds = b.tl := by
  obtain ⟨Ds, h1, _, _, h4⟩ := h
  rw [h4 hn] at h1
  exact h1
theorem DOK.mono {b b' : Dfr} {ds : List Deferred} {w w' : World} (h : DOK b ds w) (hb : b'.n ≤ b.n) (hk : ∀ (D : Nat) o, w.heap[D]? = some (Obj.deferred o) → w'.heap[D]? = some (Obj.deferred o)) (ht : b.tl = b'.tl := by rfl) (hn : b.no = b'.no := by rfl) : DOK b' ds w' := by
  obtain ⟨Ds, h1, h2, h3, h4⟩ := h
  exact ⟨Ds, by rw [← ht]; exact h1, h2, fun D hD => ⟨Nat.le_trans hb (h3 D hD).1, hk _ _ (h3 D hD).2⟩, by rw [← hn]; exact h4⟩
/-- What is owned is no block of deferred calls. -/
theorem own_not_deferred {F : Nat → Prop} {hs : Names} {C : Mem} {w : World} (hC : WRep F hs C w) {x : Nat} (hx : own hs C x) : ∀ o, w.heap[x]? ≠ some (.deferred o) := by
  intro o ho
  obtain ⟨j, b, v, hb, hv, hown⟩ := hx
  obtain ⟨v', hv', hr⟩ := hC.blk j b hb
  rw [hv] at hv'; cases hv'
  cases b with
  | row ty cells =>
    obtain ⟨y, cs, h1, h2, _⟩ := hr
    subst h1
    simp [owner] at hown; subst hown
    rw [ho] at h2; cases h2
  | slc ty k n g =>
    rcases hr with ⟨h1, _⟩ | ⟨y, cap, cs, h1, _, _, h3, _⟩
    · subst h1; simp [owner] at hown
    · subst h1; simp [owner] at hown; subst hown
      rw [ho] at h3; cases h3
  | fsl k n g => simp [owner] at hown
  | imap f =>
    obtain ⟨r, es, clk, h1, h2, _⟩ := hr
    subst h1; simp [owner] at hown; subst hown
    rw [ho] at h2; cases h2
  | pmap f =>
    obtain ⟨r, es, clk, h1, h2, _⟩ := hr
    subst h1; simp [owner] at hown; subst hown
    rw [ho] at h2; cases h2
  | gone => simp [owner] at hown
theorem fr_deferred {F : Nat → Prop} {hs : Names} {C : Mem} {w w' : World} (hC : WRep F hs C w) (h : Fr (own hs C) w w') : ∀ (D : Nat) o, w.heap[D]? = some (Obj.deferred o) → w'.heap[D]? = some (Obj.deferred o) := by
  intro D o hD
  rw [h.block D (Array.getElem?_eq_some_iff.1 hD).1 fun hx => own_not_deferred hC hx o hD]
  exact hD
theorem yield_upon {Φ : Fence} (hΦ : Free Φ) {n : Nat} {P : Program} {R : Value → World → Prop} {o : Oper} {a : Act} {next : Act → World → Prop} {Q : Exit → Act → World → Prop} {r : Result Next} (h : Yield P R r)
    (hn : ∀ v w', R v w' → next (a.put o.dst v) w') : o.uponIn Φ n P a next Q r := by
  cases r with
  | ok n w' =>
    cases n <;> simp only [Yield, Oper.uponIn] at h ⊢ <;> first | exact h.elim | skip
    · exact hn _ _ h
    · exact hn _ _ h
    · exact ⟨hΦ.depth, hΦ.calls (h.mono fun e w'' he => by
        obtain ⟨v, rfl, hv⟩ := he
        exact hn _ _ hv)⟩
  | halt x w' => exact h.elim
/-- What has been since the beginning. -/
structure Since (O0 : Nat → Prop) (hs0 : Names) (w0 : World) (hs : Names) (C : Mem) (w : World) : Prop where
  names : ∀ j h, hs0 j = some h → hs j = some h
  fr : Fr O0 w0 w
  own : ∀ x, own hs C x → O0 x ∨ w0.heap.size ≤ x
/-- **One operation.** -/
theorem oper_wp {Φ : Fence} (hΦ : Free Φ) {n : Nat} {P : Program} {o : Oper} {regs : List RV} {bs : List (Nat × Blk)} {nx : Nat} {rv : RV} {rd pre pb : List (Nat × Blk)} {nx' : Nat} (hg : Good P o regs bs nx rv rd pre pb nx')
    {F : Nat → Prop} {hs : Names} {C : Mem} {w : World} {a : Act} {R : Nat → Option RV} {O0 : Nat → Prop} {hs0 : Names} {w0 : World}
    (hsub : Sub (look (pre ++ rd)) C) (hC : WRep F hs C w) (hR : Regs (Osum F hs C) w hs R a.tmps) (hops : ∀ x ∈ o.op.operands, ∀ v, Opd regs x v → OpdF R x v)
    (hf : ∀ j, nx ≤ j → j < nx' → hs j = none) (hS : Since O0 hs0 w0 hs C w) {next : Act → World → Prop} {Q : Exit → Act → World → Prop}
    (hnext : ∀ v w' hs', RVRel (Osum F hs' (joinM C (look (pre ++ rd)) (look (pb ++ rd)))) w' rv hs' v → WRep F hs' (joinM C (look (pre ++ rd)) (look (pb ++ rd))) w' →
      Regs (Osum F hs' (joinM C (look (pre ++ rd)) (look (pb ++ rd)))) w' hs' R a.tmps → (∀ j, ¬ (nx ≤ j ∧ j < nx') → hs' j = hs j) →
      Since O0 hs0 w0 hs' (joinM C (look (pre ++ rd)) (look (pb ++ rd))) w' → Fr (own hs C) w w' → next (a.put o.dst v) w') : o.wpIn Φ n P a w next Q := by
  obtain ⟨hO, hB⟩ := part_rep hsub hC
  have hOeq : Osum F hs C = _ := funext fun x => propext (hO x)
  have hy := hg.run _ hs a.eval w (fun x hx v hv => by rw [← hOeq]; exact eval_rel hR (hops x hx v hv)) hB hf
  refine ⟨fun f _ => hΦ.fn f, ?_⟩
  rw [hΦ.sem hy]
  refine yield_upon hΦ hy fun v w' hp => ?_
  have hnew : ∀ j b, look (pb ++ rd) j = some b → (∃ b0, look (pre ++ rd) j = some b0) ∨ C j = none := by
    intro j b hj
    rcases hg.new j b hj with h | ⟨h1, h2⟩
    · exact .inl h
    · right
      cases hc : C j with
      | none => rfl
      | some c =>
        obtain ⟨u, hu, _⟩ := hC.blk j c hc
        rw [hf j h1 h2] at hu; cases hu
  obtain ⟨hs', g1, g2, g3, g4, g5, g6⟩ := post_frame hsub hC hnew hp
  have hOm : ∀ x, Osum F hs' (joinM C (look (pre ++ rd)) (look (pb ++ rd))) x → Osum F hs C x ∨ w.heap.size ≤ x := by
    rintro x (hx | hx)
    · exact .inl (.inl hx)
    · exact (g6 x hx).imp .inr id
  refine hnext v w' hs' g1 g2 (fun t r ht => ?_) g4 ⟨fun j h hj => g3 j h (hS.names j h hj), ?_, fun x hx => ?_⟩ g5
  · obtain ⟨u, hu, hr⟩ := hR t r ht
    exact ⟨u, hu, RVRel.mono g5.size (fun x hx hn => g5.block x hx fun h => hn (.inr h)) hOm g3 hr⟩
  · exact hS.fr.trans g5 hS.own
  · rcases g6 x hx with h | h
    · exact hS.own x h
    · exact .inr (Nat.le_trans hS.fr.size h)
end Go.Eng
namespace Go.Eng
open Go
/-- Names of one operation's step: what it looks at, what it turns. -/
structure Sig where
  i : Nat
  fp : List Nat
  md : List Nat
def memN (x : Nat) : List Nat → Bool
  | [] => false
  | y :: l => match Nat.beq x y with
    | true => true
    | false => memN x l
def subN : List Nat → List Nat → Bool
  | [], _ => true
  | x :: l, m => match memN x m with
    | true => subN l m
    | false => false
def meetN : List Nat → List Nat → Bool
  | [], _ => false
  | x :: l, m => match memN x m with
    | true => true
    | false => meetN l m
def fsts : List (Nat × Blk) → List Nat
  | [] => []
  | (j, _) :: l => j :: fsts l
/-- An operation, then k. (Its own constant: the kernel then holds k against k once.) -/
def goT (P : Program) (Γ : FuncId → Option FSpec) (i : Nat) (o : Oper) (bs : List (Nat × Blk)) (nx : Nat) (k : List RV → List (Nat × Blk) → Nat → Sig → Prop) (regs : List RV) : Prop :=
  stepK P Γ o regs bs nx fun v rd pre pb nx' => match subN (fsts pre) (fsts pb) with
    | true => setD regs o.dst v fun regs' => putsK bs pb fun bs' => k regs' bs' nx' ⟨i, fsts pre ++ fsts rd, fsts pb⟩
    | false => False
def skipT (i : Nat) (o : Oper) (bs : List (Nat × Blk)) (nx : Nat) (k : List RV → List (Nat × Blk) → Nat → Sig → Prop) (regs : List RV) : Prop :=
  setD regs o.dst .un fun regs' => k regs' bs nx ⟨i, [], []⟩
def guardT (P : Program) (Γ : FuncId → Option FSpec) (ops : List Oper) (i : Nat) (o : Oper) (regs : List RV) (bs : List (Nat × Blk)) (nx : Nat) (k : List RV → List (Nat × Blk) → Nat → Sig → Prop) : Prop :=
  match o.guard with
  | none => goT P Γ i o bs nx k regs
  | some (j, want) => nthK ops j fun oj => match oj.dst with
    | some d => nthK regs d fun r => match r with
      | .s (.c (.v (.bool t))) => match want with
        | true => Br t (setK regs d (.b true) (goT P Γ i o bs nx k)) (setK regs d (.b false) (skipT i o bs nx k))
        | false => Br t (setK regs d (.b true) (skipT i o bs nx k)) (setK regs d (.b false) (goT P Γ i o bs nx k))
      | .un => skipT i o bs nx k regs
      | _ => False
    | none => False
def runT (P : Program) (Γ : FuncId → Option FSpec) (ops : List Oper) : List (Nat × Oper) → St → (List Sig → St → Prop) → Prop
  | [], st, K => K [] st
  | (i, o) :: rest, ⟨regs, bs, nx⟩, K => guardT P Γ ops i o regs bs nx fun regs' bs' nx' sg => runT P Γ ops rest ⟨regs', bs', nx'⟩ fun sgs st => K (sg :: sgs) st
structure Stp where
  i : Nat
  o : Oper
  ran : Bool
  regs : List RV
  bs : List (Nat × Blk)
  nx : Nat
  rv : RV
  rd : List (Nat × Blk)
  pre : List (Nat × Blk)
  pb : List (Nat × Blk)
  nx' : Nat
def Stp.sig (s : Stp) : Sig := ⟨s.i, fsts s.pre ++ fsts s.rd, fsts s.pb⟩
structure StepOK (P : Program) (ops : List Oper) (s : Stp) : Prop where
  op : ops[s.i]? = some s.o
  sub : subN (fsts s.pre) (fsts s.pb) = true
  dst : ∀ d, s.o.dst = some d → d < s.regs.length
  le : s.nx ≤ s.nx'
  on : s.ran = true → Good P s.o s.regs s.bs s.nx s.rv s.rd s.pre s.pb s.nx' ∧
    ∀ j want, s.o.guard = some (j, want) → ∃ oj d, ops[j]? = some oj ∧ oj.dst = some d ∧ s.regs[d]? = some (.s (.c (.v (.bool want))))
  off : s.ran = false → s.rv = .un ∧ s.rd = [] ∧ s.pre = [] ∧ s.pb = [] ∧ s.nx' = s.nx ∧
    ∃ j want oj d r, s.o.guard = some (j, want) ∧ ops[j]? = some oj ∧ oj.dst = some d ∧ s.regs[d]? = some r ∧ (r = .un ∨ r = .s (.c (.v (.bool (!want)))))
inductive Tr (P : Program) (ops : List Oper) : List (Nat × Oper) → St → List Stp → St → Prop
  | nil (st : St) : Tr P ops [] st [] st
  | cons {i : Nat} {o : Oper} {rest : List (Nat × Oper)} {s : Stp} {st : St} {regs' : List RV} {bs' : List (Nat × Blk)} {l : List Stp} {st2 : St}
      (hi : s.i = i) (ho : s.o = o) (h1 : s.regs = st.regs) (h2 : s.bs = st.blks) (h3 : s.nx = st.next) (hok : StepOK P ops s)
      (hr : ∀ t, regs'[t]? = if o.dst = some t then some s.rv else st.regs[t]?) (hb : ∀ j, look bs' j = look (s.pb ++ st.blks) j)
      (ht : Tr P ops rest ⟨regs', bs', s.nx'⟩ l st2) : Tr P ops ((i, o) :: rest) st (s :: l) st2
theorem memN_iff {x : Nat} : ∀ {l : List Nat}, memN x l = true ↔ x ∈ l
  | [] => by simp [memN]
  | y :: l => by
    unfold memN
    split
    · rename_i h
      have := Nat.eq_of_beq_eq_true h
      simp [this]
    · rename_i h
      have : x ≠ y := by rintro rfl; rw [Nat.beq_refl] at h; cases h
      rw [memN_iff]; simp [this]
theorem subN_iff {m : List Nat} : ∀ {l : List Nat}, subN l m = true ↔ ∀ x ∈ l, x ∈ m
  | [] => by simp [subN]
  | y :: l => by
    unfold subN
    split
    · rename_i h
      rw [subN_iff]; simp [memN_iff.1 h]
    · rename_i h
      have : y ∉ m := fun h' => by rw [memN_iff.2 h'] at h; cases h
      simp [this]
theorem meetN_iff {m : List Nat} : ∀ {l : List Nat}, meetN l m = true ↔ ∃ x ∈ l, x ∈ m
  | [] => by simp [meetN]
  | y :: l => by
    unfold meetN
    split
    · rename_i h
      simp [memN_iff.1 h]
    · rename_i h
      have : y ∉ m := fun h' => by rw [memN_iff.2 h'] at h; cases h
      rw [meetN_iff]; simp [this]
theorem fsts_iff {j : Nat} : ∀ {l : List (Nat × Blk)}, j ∈ fsts l ↔ ∃ b, look l j = some b
  | [] => by simp [fsts, look]
  | (i, b) :: l => by
    simp only [fsts, look, List.mem_cons]
    by_cases h : i = j
    · simp [h]
    · simp only [h, if_false]
      rw [fsts_iff]
      exact ⟨fun h' => h'.resolve_left fun e => h e.symm, .inr⟩
theorem setD_spec {regs : List RV} {d : Option Tmp} {v : RV} {K : List RV → Prop} (h : setD regs d v K) :
    ∃ regs', K regs' ∧ (∀ t, d = some t → t < regs.length) ∧ ∀ t, regs'[t]? = if d = some t then some v else regs[t]? := by
  unfold setD at h
  split at h
  · exact ⟨regs, h, (fun t h => by cases h), fun t => by simp⟩
  · rename_i t0
    obtain ⟨h1, h2⟩ := setK_spec _ _ _ _ h
    refine ⟨_, h2, fun t h => by cases h; exact h1, fun t => ?_⟩
    rw [List.getElem?_set]
    by_cases e : t0 = t
    · subst e; simp [h1]
    · simp [e]
theorem setK_self {regs : List RV} {d : Nat} {x : RV} (h : regs[d]? = some x) {k : List RV → Prop} (hk : setK regs d x k) : k regs := by
  obtain ⟨h1, h2⟩ := setK_spec _ _ _ _ hk
  have e : regs[d] = x := by rw [List.getElem?_eq_getElem h1] at h; exact Option.some.inj h
  have : regs.set d x = regs := by rw [← e]; exact List.set_getElem_self h1
  rw [this] at h2; exact h2
theorem run_skip {P : Program} {Γ : FuncId → Option FSpec} {ops : List Oper} {i : Nat} {o : Oper} {rest : List (Nat × Oper)} {regs : List RV} {bs : List (Nat × Blk)} {nx : Nat} {K : List Sig → St → Prop}
    (ho : ops[i]? = some o) {j : Nat} {want : Bool} {oj : Oper} {d : Nat} {r : RV} (hg : o.guard = some (j, want)) (hj : ops[j]? = some oj) (hd : oj.dst = some d) (hrd : regs[d]? = some r)
    (hr : r = .un ∨ r = .s (.c (.v (.bool (!want)))))
    (ih : ∀ st K, (∀ j b, look st.blks j = some b → j < st.next) → runT P Γ ops rest st K → ∃ l st2, K (l.map Stp.sig) st2 ∧ Tr P ops rest st l st2)
    (hlt : ∀ j b, look bs j = some b → j < nx)
    (h : setD regs o.dst .un fun regs' => runT P Γ ops rest ⟨regs', bs, nx⟩ fun sg st => K (⟨i, [], []⟩ :: sg) st) :
    ∃ l st2, K (l.map Stp.sig) st2 ∧ Tr P ops ((i, o) :: rest) ⟨regs, bs, nx⟩ l st2 := by
  obtain ⟨regs', h, h1, h2⟩ := setD_spec h
  obtain ⟨l, st2, h3, h4⟩ := ih _ _ hlt h
  refine ⟨⟨i, o, false, regs, bs, nx, .un, [], [], [], nx⟩ :: l, st2, h3, .cons (regs' := regs') (bs' := bs) rfl rfl rfl rfl rfl
    ⟨ho, rfl, h1, Nat.le_refl _, (fun h => by cases h), fun _ => ⟨rfl, rfl, rfl, rfl, rfl, j, want, oj, d, r, hg, hj, hd, hrd, hr⟩⟩ (fun t => h2 t) (fun j => rfl) h4⟩
theorem run_go {P : Program} {Γ : FuncId → Option FSpec} (hΓ : GOK P Γ) {ops : List Oper} {i : Nat} {o : Oper} {rest : List (Nat × Oper)} {regs : List RV} {bs : List (Nat × Blk)} {nx : Nat} {K : List Sig → St → Prop}
    (ho : ops[i]? = some o) (hg : ∀ j want, o.guard = some (j, want) → ∃ oj d, ops[j]? = some oj ∧ oj.dst = some d ∧ regs[d]? = some (.s (.c (.v (.bool want)))))
    (ih : ∀ st K, (∀ j b, look st.blks j = some b → j < st.next) → runT P Γ ops rest st K → ∃ l st2, K (l.map Stp.sig) st2 ∧ Tr P ops rest st l st2)
    (hlt : ∀ j b, look bs j = some b → j < nx)
    (h : stepK P Γ o regs bs nx fun v rd pre pb nx' => match subN (fsts pre) (fsts pb) with
      | true => setD regs o.dst v fun regs' => putsK bs pb fun bs' => runT P Γ ops rest ⟨regs', bs', nx'⟩ fun sg st => K (⟨i, fsts pre ++ fsts rd, fsts pb⟩ :: sg) st
      | false => False) :
    ∃ l st2, K (l.map Stp.sig) st2 ∧ Tr P ops ((i, o) :: rest) ⟨regs, bs, nx⟩ l st2 := by
  obtain ⟨rv, rd, pre, pb, nx', h, hgood⟩ := stepK_sound hΓ hlt h
  split at h
  case h_2 => exact h.elim
  rename_i hsub
  obtain ⟨regs', h, h1, h2⟩ := setD_spec h
  obtain ⟨bs', h, h3⟩ := putsK_spec _ _ _ h
  have hb' : ∀ j b, look bs' j = some b → j < nx' := by
    intro j b hj
    rw [h3, look_append] at hj
    cases hp : look pb j with
    | none => rw [hp] at hj; exact Nat.lt_of_lt_of_le (hlt j b hj) hgood.le
    | some c =>
      rcases hgood.new j c (by rw [look_append, hp]; rfl) with ⟨b0, h6⟩ | h6
      · exact Nat.lt_of_lt_of_le (hlt j b0 (hgood.sub j b0 h6)) hgood.le
      · exact h6.2
  obtain ⟨l, st2, h4, h5⟩ := ih _ _ hb' h
  exact ⟨⟨i, o, true, regs, bs, nx, rv, rd, pre, pb, nx'⟩ :: l, st2, h4, .cons (regs' := regs') (bs' := bs') rfl rfl rfl rfl rfl
      ⟨ho, hsub, h1, hgood.le, fun _ => ⟨hgood, hg⟩, (fun h => by cases h)⟩ (fun t => h2 t) (fun j => h3 j) h5⟩
theorem runT_sound {P : Program} {Γ : FuncId → Option FSpec} (hΓ : GOK P Γ) {ops : List Oper} : ∀ (l : List (Nat × Oper)), (∀ p ∈ l, ops[p.1]? = some p.2) → ∀ (st : St) (K : List Sig → St → Prop),
    (∀ j b, look st.blks j = some b → j < st.next) → runT P Γ ops l st K → ∃ tr st2, K (tr.map Stp.sig) st2 ∧ Tr P ops l st tr st2
  | [], _, st, K, _, h => ⟨[], st, h, .nil st⟩
  | (i, o) :: rest, hl, ⟨regs, bs, nx⟩, K, hlt, h => by
    have ih := runT_sound hΓ rest fun p hp => hl p (List.mem_cons_of_mem _ hp)
    have ho : ops[i]? = some o := hl (i, o) (List.mem_cons_self ..)
    unfold runT guardT at h
    split at h
    · rename_i hg
      exact run_go hΓ ho (fun j want h => by rw [hg] at h; cases h) ih hlt h
    · rename_i j want hg
      obtain ⟨oj, hj, h⟩ := nthK_spec _ _ _ h
      split at h
      case h_2 => exact h.elim
      rename_i d hd
      obtain ⟨r, hr, h⟩ := nthK_spec _ _ _ h
      split at h
      · rename_i t
        cases want <;> cases t
        · exact run_go hΓ ho (fun j' w' h' => by rw [hg] at h'; cases h'; exact ⟨oj, d, hj, hd, hr⟩) ih hlt (setK_self hr h)
        · exact run_skip ho hg hj hd hr (.inr rfl) ih hlt (setK_self hr h)
        · exact run_skip ho hg hj hd hr (.inr rfl) ih hlt (setK_self hr h)
        · exact run_go hΓ ho (fun j' w' h' => by rw [hg] at h'; cases h'; exact ⟨oj, d, hj, hd, hr⟩) ih hlt (setK_self hr h)
      · exact run_skip ho hg hj hd hr (.inl rfl) ih hlt h
      · exact h.elim
end Go.Eng
namespace Go.Eng
open Go
def ovl {β : Type} (f : Stp → Nat → Option β) : List Stp → (Nat → Bool) → (Nat → Option β) → Nat → Option β
  | [], _, B => B
  | s :: l, L, B => ovl f l L (fun j => if L s.i then (f s j).or (B j) else B j)
section
variable {β : Type} {f : Stp → Nat → Option β}
theorem ovl_congr {j : Nat} : ∀ (l : List Stp) (L L' : Nat → Bool) (B B' : Nat → Option β), (∀ q ∈ l, L q.i = L' q.i) → B j = B' j → ovl f l L B j = ovl f l L' B' j
  | [], _, _, _, _, _, h => h
  | s :: l, L, L', B, B', hL, h => by
    unfold ovl
    refine ovl_congr l L L' _ _ (fun q hq => hL q (List.mem_cons_of_mem _ hq)) ?_
    simp only [hL s (List.mem_cons_self ..), h]
theorem ovl_none {j : Nat} : ∀ (l : List Stp) (L : Nat → Bool) (B : Nat → Option β), (∀ q ∈ l, (∃ b, f q j = some b) → L q.i = false) → ovl f l L B j = B j
  | [], _, _, _ => rfl
  | s :: l, L, B, h => by
    unfold ovl
    rw [ovl_none l L _ fun q hq => h q (List.mem_cons_of_mem _ hq)]
    cases hs : f s j with
    | none => simp
    | some b => rw [h s (List.mem_cons_self ..) ⟨b, hs⟩]; simp
theorem ovl_append (l1 l2 : List Stp) (L : Nat → Bool) (B : Nat → Option β) : ovl f (l1 ++ l2) L B = ovl f l2 L (ovl f l1 L B) := by
  induction l1 generalizing B with
  | nil => rfl
  | cons s l ih => simp only [List.cons_append, ovl, ih]
theorem ovl_some {j : Nat} : ∀ (l : List Stp) (L : Nat → Bool) (B : Nat → Option β), (B j).isSome → (ovl f l L B j).isSome
  | [], _, _, h => h
  | s :: l, L, B, h => by
    unfold ovl
    refine ovl_some l L _ ?_
    show (if L s.i then (f s j).or (B j) else B j).isSome
    split
    · cases hs : f s j with
      | none => simpa using h
      | some b => rfl
    · exact h
theorem ovl_put {j : Nat} {l1 l2 : List Stp} {s : Stp} {L L' : Nat → Bool} {B : Nat → Option β} (h1 : ∀ q ∈ l1, L' q.i = L q.i) (h2 : ∀ q ∈ l2, L' q.i = L q.i) (hs : L s.i = false) (hs' : L' s.i = true)
    (h : ∀ q ∈ l2, (∃ b, f q j = some b) → (∃ b, f s j = some b) → L q.i = false) : ovl f (l1 ++ s :: l2) L' B j = (f s j).or (ovl f (l1 ++ s :: l2) L B j) := by
  rw [ovl_append, ovl_append]
  simp only [ovl, hs, hs', if_true]
  have e1 : ovl f l1 L' B j = ovl f l1 L B j := ovl_congr l1 L' L B B h1 rfl
  cases hf : f s j with
  | none =>
    rw [Option.none_or]
    exact ovl_congr l2 L' L _ _ h2 (by simp [hf, e1])
  | some b =>
    rw [ovl_none l2 L' _ (fun q hq hb => by rw [h2 q hq]; exact h q hq hb ⟨b, hf⟩)]
    simp [hf]
end
def fm (s : Stp) : Nat → Option Blk := look s.pb
def fr (s : Stp) : Nat → Option RV := fun t => if s.o.dst = some t then some s.rv else none
def tmpsOf : List Operand → List Nat
  | [] => []
  | .tmp t :: l => t :: tmpsOf l
  | _ :: l => tmpsOf l
def looks (ops : List Oper) (o : Oper) : List Nat :=
  tmpsOf o.op.operands.toList ++ match o.guard with
    | some (g, _) => match ops[g]? with
      | some og => match og.dst with
        | some d => [d]
        | none => []
      | none => []
    | none => []
theorem tmpsOf_mem {t : Nat} : ∀ {l : List Operand}, Operand.tmp t ∈ l → t ∈ tmpsOf l
  | [], h => by cases h
  | x :: l, h => by
    rcases List.mem_cons.1 h with rfl | h
    · simp [tmpsOf]
    · have := tmpsOf_mem h
      cases x <;> simp [tmpsOf, this]
section
variable {P : Program} {ops : List Oper}
theorem tr_some {ls : List (Nat × Oper)} {st : St} {tr : List Stp} {st2 : St} (h : Tr P ops ls st tr st2) : ∀ {l1 l2 : List Stp} {s : Stp}, tr = l1 ++ s :: l2 → ∀ t : Nat, (s.regs[t]?).isSome → (st.regs[t]?).isSome := by
  induction h with
  | nil st => intro l1 l2 s e; cases l1 <;> cases e
  | @cons i o rest s0 st regs' bs' l st2 hi ho h1 h2 h3 hok hr hb ht ih =>
    intro l1 l2 s e t hs
    cases l1 with
    | nil => cases e; rw [← h1]; exact hs
    | cons q l1 =>
      cases e
      have := ih rfl t hs
      rw [hr t] at this
      split at this
      · rename_i hd
        rw [← h1, List.getElem?_eq_getElem (hok.dst t (by rw [ho]; exact hd))]; rfl
      · exact this
theorem tr_mem {ls : List (Nat × Oper)} {st : St} {tr : List Stp} {st2 : St} (h : Tr P ops ls st tr st2) : ∀ {l1 l2 : List Stp} {s : Stp}, tr = l1 ++ s :: l2 → ∀ (L : Nat → Bool) (j : Nat),
    (∀ q ∈ l1, (∃ b, fm q j = some b) → L q.i = true) → (∀ q ∈ s :: l2, (∃ b, fm q j = some b) → L q.i = false) → ovl fm tr L (look st.blks) j = look s.bs j := by
  induction h with
  | nil st => intro l1 l2 s e; cases l1 <;> cases e
  | @cons i o rest s0 st regs' bs' l st2 hi ho h1 h2 h3 hok hr hb ht ih =>
    intro l1 l2 s e L j hl1 hl2
    cases l1 with
    | nil =>
      cases e
      rw [ovl_none _ _ _ hl2, h2]
    | cons q l1 =>
      cases e
      rw [← ih rfl L j (fun q hq => hl1 q (List.mem_cons_of_mem _ hq)) hl2]
      refine ovl_congr (f := fm) _ L L (fun j => if L s0.i then (fm s0 j).or (look st.blks j) else look st.blks j) _ (fun _ _ => rfl) ?_
      rw [hb j, look_append]
      cases hp : look s0.pb j with
      | none => simp [fm, hp]
      | some b => rw [hl1 s0 (List.mem_cons_self ..) ⟨b, hp⟩]; simp [fm, hp]
theorem tr_reg {ls : List (Nat × Oper)} {st : St} {tr : List Stp} {st2 : St} (h : Tr P ops ls st tr st2) : ∀ {l1 l2 : List Stp} {s : Stp}, tr = l1 ++ s :: l2 → ∀ (L : Nat → Bool) (t : Nat),
    (∀ q ∈ l1, q.o.dst = some t → L q.i = true) → (∀ q ∈ s :: l2, q.o.dst = some t → L q.i = false) → ovl fr tr L (fun t => st.regs[t]?) t = s.regs[t]? := by
  induction h with
  | nil st => intro l1 l2 s e; cases l1 <;> cases e
  | @cons i o rest s0 st regs' bs' l st2 hi ho h1 h2 h3 hok hr hb ht ih =>
    intro l1 l2 s e L t hl1 hl2
    cases l1 with
    | nil =>
      cases e
      rw [ovl_none _ _ _ (fun q hq ⟨b, hb⟩ => hl2 q hq (by unfold fr at hb; split at hb <;> simp_all)), h1]
    | cons q l1 =>
      cases e
      rw [← ih rfl L t (fun q hq => hl1 q (List.mem_cons_of_mem _ hq)) hl2]
      refine ovl_congr (f := fr) _ L L (fun t => if L s0.i then (fr s0 t).or (st.regs[t]?) else st.regs[t]?) _ (fun _ _ => rfl) ?_
      simp only [hr t, ← ho]
      by_cases e : s0.o.dst = some t
      · rw [hl1 s0 (List.mem_cons_self ..) e]; simp [fr, e]
      · simp [fr, e]
/-- All have come up. -/
theorem tr_end {ls : List (Nat × Oper)} {st : St} {tr : List Stp} {st2 : St} (h : Tr P ops ls st tr st2) : ∀ (L : Nat → Bool), (∀ q ∈ tr, L q.i = true) →
    (∀ j, ovl fm tr L (look st.blks) j = look st2.blks j) ∧ (∀ t, ovl fr tr L (fun t => st.regs[t]?) t = st2.regs[t]?) := by
  induction h with
  | nil st => intro L _; exact ⟨fun _ => rfl, fun _ => rfl⟩
  | @cons i o rest s0 st regs' bs' l st2 hi ho h1 h2 h3 hok hr hb ht ih =>
    intro L hL
    obtain ⟨a1, a2⟩ := ih L fun q hq => hL q (List.mem_cons_of_mem _ hq)
    have h0 := hL s0 (List.mem_cons_self ..)
    constructor
    · intro j
      rw [← a1 j]
      refine ovl_congr (f := fm) _ L L (fun j => if L s0.i then (fm s0 j).or (look st.blks j) else look st.blks j) _ (fun _ _ => rfl) ?_
      simp only [h0, if_true, hb j, look_append]
      rfl
    · intro t
      rw [← a2 t]
      refine ovl_congr (f := fr) _ L L (fun t => if L s0.i then (fr s0 t).or (st.regs[t]?) else st.regs[t]?) _ (fun _ _ => rfl) ?_
      simp only [h0, if_true, hr t, ← ho, fr]
      split <;> rfl
theorem tr_nx {ls : List (Nat × Oper)} {st : St} {tr : List Stp} {st2 : St} (h : Tr P ops ls st tr st2) : st.next ≤ st2.next ∧ (∀ q ∈ tr, st.next ≤ q.nx ∧ q.nx ≤ q.nx' ∧ q.nx' ≤ st2.next) ∧
    ∀ {l1 l2 : List Stp} {s : Stp}, tr = l1 ++ s :: l2 → (∀ q ∈ l1, q.nx' ≤ s.nx) ∧ (∀ q ∈ l2, s.nx' ≤ q.nx) := by
  induction h with
  | nil st => exact ⟨Nat.le_refl _, fun q hq => (by cases hq), fun {l1 l2 s} e => by cases l1 <;> cases e⟩
  | @cons i o rest s0 st regs' bs' l st2 hi ho h1 h2 h3 hok hr hb ht ih =>
    obtain ⟨i1, i2, i3⟩ := ih
    have hle := hok.le
    refine ⟨by simp only at i1; omega, fun q hq => ?_, fun {l1 l2 s} e => ?_⟩
    · rcases List.mem_cons.1 hq with rfl | hq
      · exact ⟨by omega, hle, i1⟩
      · have := i2 q hq
        simp only at this
        omega
    · cases l1 with
      | nil =>
        cases e
        exact ⟨fun q hq => (by cases hq), fun q hq => (i2 q hq).1⟩
      | cons q l1 =>
        cases e
        obtain ⟨j1, j2⟩ := i3 rfl
        refine ⟨fun q hq => ?_, j2⟩
        rcases List.mem_cons.1 hq with rfl | hq
        · exact (i2 s (by simp)).1
        · exact j1 q hq
theorem tr_ok {ls : List (Nat × Oper)} {st : St} {tr : List Stp} {st2 : St} (h : Tr P ops ls st tr st2) : ∀ s ∈ tr, StepOK P ops s := by
  induction h with
  | nil st => intro s h; cases h
  | cons hi ho h1 h2 h3 hok hr hb ht ih =>
    intro s hs
    rcases List.mem_cons.1 hs with rfl | hs
    · exact hok
    · exact ih s hs
theorem tr_idx {ls : List (Nat × Oper)} {st : St} {tr : List Stp} {st2 : St} (h : Tr P ops ls st tr st2) : tr.map Stp.i = ls.map Prod.fst := by
  induction h with
  | nil st => rfl
  | cons hi ho h1 h2 h3 hok hr hb ht ih => simp [hi, ih]
end
end Go.Eng
namespace Go.Eng
open Go
/-- Where a region is: the operations of L have come up. -/
structure Inv (d : Dfr) (F : Nat → Prop) (O0 : Nat → Prop) (hs0 : Names) (w0 : World) (tr : List Stp) (st st2 : St) (L : Nat → Bool) (a : Act) (w : World) : Prop where
  ex : ∃ hs : Names, WRep F hs (ovl fm tr L (look st.blks)) w ∧ Regs (Osum F hs (ovl fm tr L (look st.blks))) w hs (ovl fr tr L fun t => st.regs[t]?) a.tmps ∧
    (∀ q ∈ tr, L q.i = false → ∀ j, q.nx ≤ j → j < q.nx' → hs j = none) ∧ (∀ j, st2.next ≤ j → hs j = none) ∧ Since O0 hs0 w0 hs (ovl fm tr L (look st.blks)) w
  defers : DOK d a.defers w
section
variable {d : Dfr} {P : Program} {ops : List Oper} {F : Nat → Prop} {O0 : Nat → Prop} {hs0 : Names} {w0 : World}
theorem put_tmps (a : Act) (d : Option Tmp) (v : Value) (t : Nat) : (a.put d v).tmps[t]? = if d = some t ∧ t < a.tmps.size then some v else a.tmps[t]? := by
  cases d with
  | none => simp [Act.put]
  | some d =>
    simp only [Act.put, Array.getElem?_setIfInBounds, Option.some.injEq]
    by_cases e : d = t
    · subst e
      by_cases h : d < a.tmps.size
      · simp [h]
      · simp [h]
    · simp [e]
theorem put_defers (a : Act) (d : Option Tmp) (v : Value) : (a.put d v).defers = a.defers := by cases d <;> rfl
theorem regs_put {O : Nat → Prop} {w : World} {hs : Names} {R : Nat → Option RV} {a : Act} {d : Option Tmp} {v : Value} {rv : RV} (h : Regs O w hs R a.tmps) (hv : RVRel O w rv hs v)
    (hd : ∀ t, d = some t → (R t).isSome) : Regs O w hs (fun t => (if d = some t then some rv else none).or (R t)) (a.put d v).tmps := by
  intro t r ht
  rw [put_tmps]
  by_cases e : d = some t
  · simp only [e, if_true, Option.some_or, Option.some.injEq] at ht
    subst ht
    obtain ⟨r0, hr0⟩ := Option.isSome_iff_exists.1 (hd t e)
    obtain ⟨u, hu, _⟩ := h t r0 hr0
    have := (Array.getElem?_eq_some_iff.1 hu).1
    exact ⟨v, by simp [e, this], hv⟩
  · simp only [e, if_false, Option.none_or] at ht
    obtain ⟨u, hu, hr⟩ := h t r ht
    exact ⟨u, by simp [e, hu], hr⟩
theorem wanted_of {a : Act} {o oj : Oper} {j d : Nat} {want : Bool} {u : Value} (hg : o.guard = some (j, want)) (hj : ops[j]? = some oj) (hd : oj.dst = some d) (hu : a.tmps[d]? = some u) :
    Region.wanted o (yielded ops.toArray a.tmps) = match u with | .bool b => b == want | _ => false := by
  simp only [Region.wanted, hg, yielded, List.getElem?_toArray, hj, Option.bind_some, hd, hu]
  cases u <;> simp
theorem step_at {Φ : Fence} (hΦ : Free Φ) {n : Nat} {ls : List (Nat × Oper)} {st : St} {tr : List Stp} {st2 : St} (hT : Tr P ops ls st tr st2) {l1 l2 : List Stp} {s : Stp} (he : tr = l1 ++ s :: l2)
    (hn1 : ∀ q ∈ l1, q.i ≠ s.i) (hn2 : ∀ q ∈ l2, q.i ≠ s.i) {L L' : Nat → Bool} (hL : L s.i = false) (hL' : L' = fun i => L i || i == s.i)
    (m1 : ∀ q ∈ l1, ∀ j, j ∈ s.sig.fp → j ∈ q.sig.md → L q.i = true) (m2 : ∀ q ∈ l2, ∀ j, (j ∈ s.sig.fp ∨ j ∈ s.sig.md) → j ∈ q.sig.md → L q.i = false)
    (r1 : ∀ q ∈ l1, ∀ t, q.o.dst = some t → t ∈ looks ops s.o → L q.i = true) (r2 : ∀ q ∈ l2, ∀ t, q.o.dst = some t → (t ∈ looks ops s.o ∨ s.o.dst = some t) → L q.i = false)
    {a : Act} {w : World} (inv : Inv d F O0 hs0 w0 tr st st2 L a w) {K : Act → World → Prop} {Q : Exit → Act → World → Prop}
    (hK : ∀ a' w', a'.defers = a.defers → Inv d F O0 hs0 w0 tr st st2 L' a' w' → K a' w') : wpOpIn Φ n P ops.toArray Q s.i K a w := by
  have hok := tr_ok hT s (by rw [he]; simp)
  obtain ⟨⟨hs, hw, hR, hf, hfe, hS⟩, hdef⟩ := inv
  have hmem : ∀ j, j ∈ s.sig.fp → ovl fm tr L (look st.blks) j = look s.bs j := fun j hj =>
    tr_mem hT he L j (fun q hq hb => m1 q hq j hj (fsts_iff.2 hb)) fun q hq hb => by
      rcases List.mem_cons.1 hq with rfl | hq
      · exact hL
      · exact m2 q hq j (.inl hj) (fsts_iff.2 hb)
  have hreg : ∀ t, t ∈ looks ops s.o → ovl fr tr L (fun t => st.regs[t]?) t = s.regs[t]? := fun t ht =>
    tr_reg hT he L t (fun q hq hd => r1 q hq t hd ht) fun q hq hd => by
      rcases List.mem_cons.1 hq with rfl | hq
      · exact hL
      · exact r2 q hq t hd (.inl ht)
  have hl1 : ∀ q ∈ l1, L' q.i = L q.i := fun q hq => by rw [hL']; simp [hn1 q hq]
  have hl2 : ∀ q ∈ l2, L' q.i = L q.i := fun q hq => by rw [hL']; simp [hn2 q hq]
  have hls : L' s.i = true := by rw [hL']; simp
  have hputm : ∀ j, ovl fm tr L' (look st.blks) j = (look s.pb j).or (ovl fm tr L (look st.blks) j) := fun j => by
    rw [he]
    exact ovl_put hl1 hl2 hL hls fun q hq hb hb' => m2 q hq j (.inr (fsts_iff.2 hb')) (fsts_iff.2 hb)
  have hputr : ∀ t, ovl fr tr L' (fun t => st.regs[t]?) t = (fr s t).or (ovl fr tr L (fun t => st.regs[t]?) t) := fun t => by
    rw [he]
    refine ovl_put hl1 hl2 hL hls fun q hq ⟨b, hb⟩ ⟨b', hb'⟩ => ?_
    have e1 : q.o.dst = some t := by unfold fr at hb; split at hb <;> simp_all
    have e2 : s.o.dst = some t := by unfold fr at hb'; split at hb' <;> simp_all
    exact r2 q hq t e1 (.inr e2)
  have hdsome : ∀ t, s.o.dst = some t → (ovl fr tr L (fun t => st.regs[t]?) t).isSome := fun t ht =>
    ovl_some _ _ _ (tr_some hT he t (by rw [List.getElem?_eq_getElem (hok.dst t ht)]; rfl))
  have hfr : ovl fr tr L' (fun t => st.regs[t]?) = fun t => (if s.o.dst = some t then some s.rv else none).or (ovl fr tr L (fun t => st.regs[t]?) t) := funext hputr
  have hin : ∀ q ∈ tr, L' q.i = false → q ∈ l1 ∨ q ∈ l2 := by
    intro q hq hqL
    rw [he] at hq
    rcases List.mem_append.1 hq with h | h
    · exact .inl h
    · rcases List.mem_cons.1 h with rfl | h
      · rw [hls] at hqL; cases hqL
      · exact .inr h
  have hLL : ∀ i, L' i = false → L i = false := fun i h => by rw [hL'] at h; simp at h; exact h.1
  obtain ⟨_, n2, n3⟩ := tr_nx hT
  obtain ⟨n3, n4⟩ := n3 he
  have hsnx : s.nx' ≤ st2.next := (n2 s (by rw [he]; simp)).2.2
  unfold wpOpIn
  rw [List.getElem?_toArray, hok.op]
  simp only
  cases hran : s.ran with
  | true =>
    obtain ⟨hgood, hguard⟩ := hok.on hran
    have hwant : Region.wanted s.o (yielded ops.toArray a.tmps) = true := by
      cases hg : s.o.guard with
      | none => simp [Region.wanted, hg]
      | some p =>
        obtain ⟨j, want⟩ := p
        obtain ⟨oj, d, h1, h2, h3⟩ := hguard j want hg
        have hd : d ∈ looks ops s.o := by simp [looks, hg, h1, h2]
        obtain ⟨u, hu, hru⟩ := hR d _ ((hreg d hd).trans h3)
        have := rel_v hru
        subst this
        rw [wanted_of hg h1 h2 hu]; simp
    rw [if_pos hwant]
    have hsub : Sub (look (s.pre ++ s.rd)) (ovl fm tr L (look st.blks)) := by
      intro j b hj
      rw [hmem j ?_]
      · exact hgood.sub j b hj
      · have : j ∈ fsts (s.pre ++ s.rd) := fsts_iff.2 ⟨b, hj⟩
        rw [fsts_iff, look_append] at this
        obtain ⟨b', hb'⟩ := this
        show j ∈ fsts s.pre ++ fsts s.rd
        rw [List.mem_append, fsts_iff, fsts_iff]
        cases hp : look s.pre j with
        | some c => exact .inl ⟨c, rfl⟩
        | none => rw [hp] at hb'; exact .inr ⟨b', hb'⟩
    have hjoin : joinM (ovl fm tr L (look st.blks)) (look (s.pre ++ s.rd)) (look (s.pb ++ s.rd)) = ovl fm tr L' (look st.blks) := by
      funext j
      rw [hputm]
      unfold joinM
      rw [look_append, look_append]
      cases hpb : look s.pb j with
      | some b => simp
      | none =>
        have hpre : look s.pre j = none := by
          cases hp : look s.pre j with
          | none => rfl
          | some c =>
            have := subN_iff.1 hok.sub j (fsts_iff.2 ⟨c, hp⟩)
            obtain ⟨b, hb⟩ := fsts_iff.1 this
            rw [hpb] at hb; cases hb
        rw [hpre]
        simp only [Option.none_or]
        cases hrd : look s.rd j with
        | some b => exact (hsub j b (by rw [look_append, hpre, hrd]; rfl)).symm
        | none => rfl
    refine (oper_wp hΦ hgood hsub hw hR (fun x hx v hv => ?_) (fun j h1 h2 => hf s (by rw [he]; simp) hL j h1 h2) hS fun v w' hs' g1 g2 g3 g4 g5 g6 => hK _ _ (put_defers ..) ⟨⟨hs', ?_⟩, by rw [put_defers]; exact hdef.mono (Nat.le_refl _) (fr_deferred hw g6)⟩)
    · cases x with
      | tmp t =>
        show ovl fr tr L _ t = some v
        rw [hreg t ?_]
        · exact hv
        · exact List.mem_append.2 (.inl (tmpsOf_mem (by simpa using hx)))
      | const c => exact hv
      | func f => exact hv
      | global g => exact hv.elim
    · rw [hjoin] at g1 g2 g3 g5
      refine ⟨g2, ?_, ?_, ?_, g5⟩
      · rw [hfr]
        exact regs_put g3 g1 hdsome
      · intro q hq hqL j h1 h2
        rw [g4 j ?_]
        · exact hf q hq (hLL _ hqL) j h1 h2
        · rcases hin q hq hqL with h | h
          · have := n3 q h; omega
          · have := n4 q h; omega
      · intro j hj
        rw [g4 j (by omega)]
        exact hfe j hj
  | false =>
    obtain ⟨e1, e2, e3, e4, e5, j, want, oj, d, r, hg, h1, h2, h3, h4⟩ := hok.off hran
    have hd : d ∈ looks ops s.o := by simp [looks, hg, h1, h2]
    obtain ⟨u, hu, hru⟩ := hR d _ ((hreg d hd).trans h3)
    have hwant : Region.wanted s.o (yielded ops.toArray a.tmps) = false := by
      rw [wanted_of hg h1 h2 hu]
      rcases h4 with rfl | rfl
      · have : u = undef := hru
        subst this
        rfl
      · have := rel_v hru
        subst this
        cases want <;> rfl
    rw [hwant]
    simp only [Bool.false_eq_true, if_false]
    have hmm : ovl fm tr L' (look st.blks) = ovl fm tr L (look st.blks) := by
      funext j
      rw [hputm, e4]
      simp [look]
    refine ⟨fun f _ => hΦ.fn f, hK _ _ (put_defers ..) ⟨⟨hs, ?_⟩, by rw [put_defers]; exact hdef⟩⟩
    rw [hmm]
    refine ⟨hw, ?_, fun q hq hqL => hf q hq (hLL _ hqL), hfe, hS⟩
    rw [hfr, e1]
    exact regs_put hR rfl hdsome
end
end Go.Eng
namespace Go.Eng
open Go
def deps (o : Oper) : List Nat := go o.after.toList
where
  go : List Edge → List Nat
    | [] => []
    | e :: l => match Region.binds .any e with
      | true => e.on :: go l
      | false => go l
structure Ent where
  s : Sig
  o : Oper
  an : List Nat
def dstL (o : Oper) : List Nat :=
  match o.dst with
  | some d => [d]
  | none => []
/-- May q and s not change places? -/
def confl (ops : List Oper) (q s : Sig) (oq os : Oper) : Bool :=
  meetN (dstL oq) (looks ops os) || meetN (dstL os) (looks ops oq) || meetN (dstL oq) (dstL os) || meetN q.md s.fp || meetN q.fp s.md || meetN q.md s.md
def addN : List Nat → List Nat → List Nat
  | [], m => m
  | x :: l, m => match memN x m with
    | true => addN l m
    | false => addN l (x :: m)
def ancOf (ds : List Nat) : List Ent → List Nat
  | [] => []
  | t :: T => match memN t.s.i ds with
    | true => addN t.an (ancOf ds T)
    | false => ancOf ds T
def idx : List Ent → List Nat
  | [] => []
  | t :: T => t.s.i :: idx T
def apartT (ops : List Oper) (s : Sig) (o : Oper) (an : List Nat) : List Ent → Bool
  | [] => true
  | t :: T => (match memN t.s.i an with
    | true => true
    | false => !confl ops t.s s t.o o) && apartT ops s o an T
def chk (ops : List Oper) : List Sig → List Ent → Bool
  | [], _ => true
  | s :: l, T => match ops[s.i]? with
    | none => false
    | some o =>
      let an := addN (deps o) (ancOf (deps o) T)
      subN (deps o) (idx T) && !memN s.i (idx T) && apartT ops s o an T && chk ops l (⟨s, o, an⟩ :: T)
def covN : Nat → List Nat → Bool
  | 0, _ => true
  | n + 1, l => memN n l && covN n l
def Sig.is : List Sig → List Nat
  | [] => []
  | s :: l => s.i :: Sig.is l
/-- Any order does. -/
def anyB (ops : List Oper) (sg : List Sig) : Bool := chk ops sg [] && covN ops.length (Sig.is sg) && Nat.ble sg.length ops.length
theorem addN_mem {x : Nat} : ∀ {l m : List Nat}, x ∈ addN l m → x ∈ l ∨ x ∈ m
  | [], m, h => .inr h
  | y :: l, m, h => by
    unfold addN at h
    split at h
    · rcases addN_mem h with h | h
      · exact .inl (List.mem_cons_of_mem _ h)
      · exact .inr h
    · rcases addN_mem h with h | h
      · exact .inl (List.mem_cons_of_mem _ h)
      · rcases List.mem_cons.1 h with rfl | h
        · exact .inl (List.mem_cons_self ..)
        · exact .inr h
theorem idx_mem {i : Nat} : ∀ {T : List Ent}, i ∈ idx T ↔ ∃ t ∈ T, t.s.i = i
  | [] => by simp [idx]
  | t :: T => by
    simp only [idx, List.mem_cons, idx_mem]
    constructor
    · rintro (rfl | ⟨u, hu, rfl⟩)
      · exact ⟨t, .inl rfl, rfl⟩
      · exact ⟨u, .inr hu, rfl⟩
    · rintro ⟨u, rfl | hu, rfl⟩
      · exact .inl rfl
      · exact .inr ⟨u, hu, rfl⟩
theorem ancOf_mem {ds : List Nat} {x : Nat} : ∀ {T : List Ent}, x ∈ ancOf ds T → ∃ t ∈ T, t.s.i ∈ ds ∧ x ∈ t.an
  | [], h => by cases h
  | t :: T, h => by
    unfold ancOf at h
    split at h
    · rename_i hm
      rcases addN_mem h with h | h
      · exact ⟨t, List.mem_cons_self .., memN_iff.1 hm, h⟩
      · obtain ⟨u, h1, h2⟩ := ancOf_mem h
        exact ⟨u, List.mem_cons_of_mem _ h1, h2⟩
    · obtain ⟨u, h1, h2⟩ := ancOf_mem h
      exact ⟨u, List.mem_cons_of_mem _ h1, h2⟩
theorem apartT_spec {ops : List Oper} {s : Sig} {o : Oper} {an : List Nat} : ∀ {T : List Ent}, apartT ops s o an T = true → ∀ t ∈ T, confl ops t.s s t.o o = true → t.s.i ∈ an
  | [], _, t, h, _ => by cases h
  | u :: T, h, t, ht, hc => by
    unfold apartT at h
    rw [Bool.and_eq_true] at h
    rcases List.mem_cons.1 ht with rfl | ht
    · have h := h.1
      split at h
      · rename_i hm; exact memN_iff.1 hm
      · rw [hc] at h; cases h
    · exact apartT_spec h.2 t ht hc
/-- L lists no operation ahead of one that it waits for. -/
def Closed (ops : List Oper) (L : Nat → Bool) : Prop := ∀ i o, ops[i]? = some o → L i = true → ∀ d ∈ deps o, L d = true
structure EntOK (ops : List Oper) (t : Ent) : Prop where
  op : ops[t.s.i]? = some t.o
  an : ∀ L, Closed ops L → (∀ d ∈ deps t.o, L d = true) → ∀ x ∈ t.an, L x = true
theorem chk_spec {ops : List Oper} : ∀ (l : List Sig) (T : List Ent), chk ops l T = true → (∀ t ∈ T, EntOK ops t) → ∀ {l1 l2 : List Sig} {s : Sig}, l = l1 ++ s :: l2 → ∃ o, ops[s.i]? = some o ∧
    (∀ d ∈ deps o, d ∈ idx T ∨ ∃ q ∈ l1, q.i = d) ∧ (∀ t ∈ T, t.s.i ≠ s.i) ∧ (∀ q ∈ l1, q.i ≠ s.i) ∧
    (∀ t ∈ T, confl ops t.s s t.o o = true → ∀ L, Closed ops L → (∀ d ∈ deps o, L d = true) → L t.s.i = true) ∧
    (∀ q ∈ l1, ∀ oq, ops[q.i]? = some oq → confl ops q s oq o = true → ∀ L, Closed ops L → (∀ d ∈ deps o, L d = true) → L q.i = true)
  | [], _, _, _, l1, l2, s, e => by cases l1 <;> cases e
  | s0 :: l, T, h, hT, l1, l2, s, e => by
    unfold chk at h
    split at h
    case h_1 => cases h
    rename_i o0 ho0
    simp only [Bool.and_eq_true, Bool.not_eq_true'] at h
    obtain ⟨⟨⟨h1, h2⟩, h3⟩, h4⟩ := h
    have han : ∀ L, Closed ops L → (∀ d ∈ deps o0, L d = true) → ∀ x ∈ addN (deps o0) (ancOf (deps o0) T), L x = true := by
      intro L hL hd x hx
      rcases addN_mem hx with hx | hx
      · exact hd x hx
      · obtain ⟨t, h5, h6, h7⟩ := ancOf_mem hx
        exact (hT t h5).an L hL (hL _ _ (hT t h5).op (hd _ h6)) x h7
    cases l1 with
    | nil =>
      cases e
      refine ⟨o0, ho0, fun d hd => .inl (subN_iff.1 h1 d hd), fun t ht he => ?_, fun q hq => (by cases hq), fun t ht hc L hL hd => han L hL hd _ (apartT_spec h3 t ht hc), fun q hq => by cases hq⟩
      have : memN s0.i (idx T) = true := memN_iff.2 (idx_mem.2 ⟨t, ht, he⟩)
      rw [this] at h2; cases h2
    | cons q l1 =>
      cases e
      obtain ⟨o, g1, g2, g3, g4, g5, g6⟩ := chk_spec _ _ h4 (fun t ht => by
        rcases List.mem_cons.1 ht with rfl | ht
        · exact ⟨ho0, han⟩
        · exact hT t ht) rfl
      refine ⟨o, g1, fun d hd => ?_, fun t ht => g3 t (List.mem_cons_of_mem _ ht), fun q hq => ?_, fun t ht => g5 t (List.mem_cons_of_mem _ ht), fun q hq oq hoq hc => ?_⟩
      · rcases g2 d hd with h | ⟨q, hq, rfl⟩
        · simp only [idx, List.mem_cons] at h
          rcases h with rfl | h
          · exact .inr ⟨s0, List.mem_cons_self .., rfl⟩
          · exact .inl h
        · exact .inr ⟨q, List.mem_cons_of_mem _ hq, rfl⟩
      · rcases List.mem_cons.1 hq with rfl | hq
        · exact g3 _ (List.mem_cons_self ..)
        · exact g4 q hq
      · rcases List.mem_cons.1 hq with rfl | hq
        · rw [ho0] at hoq; cases hoq
          exact g5 _ (List.mem_cons_self ..) hc
        · exact g6 q hq oq hoq hc
theorem covN_spec {l : List Nat} : ∀ {n : Nat}, covN n l = true → ∀ i, i < n → i ∈ l
  | 0, _, i, h => by omega
  | n + 1, h, i, hi => by
    simp only [covN, Bool.and_eq_true] at h
    by_cases e : i = n
    · subst e; exact memN_iff.1 h.1
    · exact covN_spec h.2 i (by omega)
theorem is_mem {i : Nat} : ∀ {l : List Sig}, i ∈ Sig.is l ↔ ∃ s ∈ l, s.i = i
  | [] => by simp [Sig.is]
  | t :: T => by
    simp only [Sig.is, List.mem_cons, is_mem]
    constructor
    · rintro (rfl | ⟨u, hu, rfl⟩)
      · exact ⟨t, .inl rfl, rfl⟩
      · exact ⟨u, .inr hu, rfl⟩
    · rintro ⟨u, rfl | hu, rfl⟩
      · exact .inl rfl
      · exact .inr ⟨u, hu, rfl⟩
theorem deps_mem {o : Oper} {e : Edge} (he : e ∈ o.after) (hb : Region.binds .any e = true) : e.on ∈ deps o := by
  have key : ∀ l : List Edge, e ∈ l → e.on ∈ deps.go l := by
    intro l
    induction l with
    | nil => intro h; cases h
    | cons x l ih =>
      intro h
      unfold deps.go
      rcases List.mem_cons.1 h with rfl | h
      · rw [hb]; exact List.mem_cons_self ..
      · split
        · exact List.mem_cons_of_mem _ (ih h)
        · exact ih h
  exact key _ (by simpa using he)
theorem deps_of {o : Oper} {d : Nat} (h : d ∈ deps o) : ∃ e ∈ o.after, Region.binds .any e = true ∧ e.on = d := by
  have key : ∀ l : List Edge, d ∈ deps.go l → ∃ e ∈ l, Region.binds .any e = true ∧ e.on = d := by
    intro l
    induction l with
    | nil => intro h; cases h
    | cons x l ih =>
      intro h
      unfold deps.go at h
      split at h
      · rename_i hb
        rcases List.mem_cons.1 h with rfl | h
        · exact ⟨x, List.mem_cons_self .., hb, rfl⟩
        · obtain ⟨e, h1, h2⟩ := ih h
          exact ⟨e, List.mem_cons_of_mem _ h1, h2⟩
      · obtain ⟨e, h1, h2⟩ := ih h
        exact ⟨e, List.mem_cons_of_mem _ h1, h2⟩
  obtain ⟨e, h1, h2⟩ := key _ h
  exact ⟨e, by simpa using h1, h2⟩
/-- What a state of the abstract machine stands for, since the beginning. -/
structure RepS (d : Dfr) (F : Nat → Prop) (O0 : Nat → Prop) (hs0 : Names) (w0 : World) (st : St) (a : Act) (w : World) : Prop where
  ex : ∃ hs : Names, WRep F hs (look st.blks) w ∧ Regs (Osum F hs (look st.blks)) w hs (fun t => st.regs[t]?) a.tmps ∧ (∀ j, st.next ≤ j → hs j = none) ∧ Since O0 hs0 w0 hs (look st.blks) w
  defers : DOK d a.defers w
section
variable {d : Dfr} {P : Program} {ops : List Oper} {F : Nat → Prop} {O0 : Nat → Prop} {hs0 : Names} {w0 : World}
theorem RepS.lt {st : St} {a : Act} {w : World} (h : RepS d F O0 hs0 w0 st a w) : ∀ j b, look st.blks j = some b → j < st.next := by
  intro j b hj
  obtain ⟨⟨hs, hw, _, hf, _⟩, _⟩ := h
  obtain ⟨u, hu, _⟩ := hw.blk j b hj
  rcases Nat.lt_or_ge j st.next with h | h
  · exact h
  · rw [hf j h] at hu; cases hu
theorem inv_start {ls : List (Nat × Oper)} {st : St} {tr : List Stp} {st2 : St} (hT : Tr P ops ls st tr st2) {L : Nat → Bool} (hL : ∀ q ∈ tr, L q.i = false) {a : Act} {w : World} (h : RepS d F O0 hs0 w0 st a w) :
    Inv d F O0 hs0 w0 tr st st2 L a w := by
  obtain ⟨⟨hs, hw, hR, hf, hS⟩, hd⟩ := h
  have e1 : ovl fm tr L (look st.blks) = look st.blks := funext fun j => ovl_none _ _ _ fun q hq _ => hL q hq
  have e2 : ovl fr tr L (fun t => st.regs[t]?) = fun t => st.regs[t]? := funext fun j => ovl_none _ _ _ fun q hq _ => hL q hq
  refine ⟨⟨hs, ?_⟩, hd⟩
  rw [e1, e2]
  have hn := tr_nx hT
  exact ⟨hw, hR, fun q hq _ j h1 _ => hf j (Nat.le_trans (hn.2.1 q hq).1 h1), fun j hj => hf j (Nat.le_trans hn.1 hj), hS⟩
theorem inv_end {ls : List (Nat × Oper)} {st : St} {tr : List Stp} {st2 : St} (hT : Tr P ops ls st tr st2) {L : Nat → Bool} (hL : ∀ q ∈ tr, L q.i = true) {a : Act} {w : World}
    (h : Inv d F O0 hs0 w0 tr st st2 L a w) : RepS d F O0 hs0 w0 st2 a w := by
  obtain ⟨⟨hs, hw, hR, _, hf, hS⟩, hd⟩ := h
  obtain ⟨a1, a2⟩ := tr_end hT L hL
  have e1 : ovl fm tr L (look st.blks) = look st2.blks := funext a1
  have e2 : ovl fr tr L (fun t => st.regs[t]?) = fun t => st2.regs[t]? := funext a2
  rw [e1] at hw hR hS
  rw [e2] at hR
  exact ⟨⟨hs, hw, hR, hf, hS⟩, hd⟩
/-- In the order of the text. -/
theorem text_wp {Φ : Fence} (hΦ : Free Φ) {n : Nat} {ls : List (Nat × Oper)} {st : St} {tr : List Stp} {st2 : St} (hT : Tr P ops ls st tr st2) (hnd : (tr.map Stp.i).Nodup) {Q : Exit → Act → World → Prop} {D : List Deferred}
    (hQ : ∀ a w, a.defers = D → RepS d F O0 hs0 w0 st2 a w → Q .normal a w) : ∀ (l2 l1 : List Stp), tr = l1 ++ l2 → ∀ (L : Nat → Bool), (∀ q ∈ l1, L q.i = true) → (∀ q ∈ l2, L q.i = false) →
    ∀ a w, a.defers = D → Inv d F O0 hs0 w0 tr st st2 L a w → wpOpsIn Φ n P ops.toArray Q (l2.map Stp.i) a w
  | [], l1, e, L, h1, h2, a, w, hD, inv => by
    simp only [List.map_nil, wpOpsIn]
    exact hQ a w hD (inv_end hT (by rw [e, List.append_nil]; exact h1) inv)
  | s :: l2, l1, e, L, h1, h2, a, w, hD, inv => by
    rw [List.map_cons, wpOpsIn_cons]
    have hnd' := hnd
    rw [e, List.map_append, List.map_cons, List.nodup_append] at hnd'
    obtain ⟨_, hn2, hn3⟩ := hnd'
    rw [List.nodup_cons] at hn2
    have hn1 : ∀ q ∈ l1, q.i ≠ s.i := fun q hq h => hn3 q.i (List.mem_map.2 ⟨q, hq, rfl⟩) s.i (by simp) h
    have hn2' : ∀ q ∈ l2, q.i ≠ s.i := fun q hq h => hn2.1 (List.mem_map.2 ⟨q, hq, h⟩)
    refine step_at hΦ hT e hn1 hn2' (h2 s (List.mem_cons_self ..)) rfl (fun q hq _ _ _ => h1 q hq) (fun q hq _ _ _ => h2 q (List.mem_cons_of_mem _ hq)) (fun q hq _ _ _ => h1 q hq)
      (fun q hq _ _ _ => h2 q (List.mem_cons_of_mem _ hq)) inv fun a' w' hD' inv' => ?_
    refine text_wp hΦ hT hnd hQ l2 (l1 ++ [s]) (by simp [e]) _ (fun q hq => ?_) (fun q hq => ?_) a' w' (hD'.trans hD) inv'
    · rcases List.mem_append.1 hq with h | h
      · simp [h1 q h]
      · simp at h; simp [h]
    · simp [h2 q (List.mem_cons_of_mem _ hq), hn2' q hq]
/-- In any order. -/
theorem any_wp {Φ : Fence} (hΦ : Free Φ) {n : Nat} {ls : List (Nat × Oper)} {st : St} {tr : List Stp} {st2 : St} (hT : Tr P ops ls st tr st2) (hB : anyB ops (tr.map Stp.sig) = true) {Q : Exit → Act → World → Prop}
    (hQ : ∀ a w, RepS d F O0 hs0 w0 st2 a w → Q .normal a w) : ∀ (fuel : Nat) (listed : Array Bool), listed.size = ops.length → (tr.filter fun s => !(listed.getD s.i false)).length ≤ fuel →
    Closed ops (fun i => listed.getD i false) → ∀ a w, Inv d F O0 hs0 w0 tr st st2 (fun i => listed.getD i false) a w → wpAnyIn Φ n P .any ops.toArray Q fuel listed a w := by
  simp only [anyB, Bool.and_eq_true] at hB
  obtain ⟨⟨hchk, hcov⟩, _⟩ := hB
  have hall : ∀ i, i < ops.length → ∃ s ∈ tr, s.i = i := by
    intro i hi
    obtain ⟨sg, h1, h2⟩ := is_mem.1 (covN_spec hcov i hi)
    obtain ⟨s, hs, rfl⟩ := List.mem_map.1 h1
    exact ⟨s, hs, h2⟩
  have hspec : ∀ {l1 l2 : List Stp} {s : Stp}, tr = l1 ++ s :: l2 → ops[s.i]? = some s.o ∧ (∀ d ∈ deps s.o, ∃ q ∈ l1, q.i = d) ∧ (∀ q ∈ l1, q.i ≠ s.i) ∧
      (∀ q ∈ l1, confl ops q.sig s.sig q.o s.o = true → ∀ L, Closed ops L → (∀ d ∈ deps s.o, L d = true) → L q.i = true) := by
    intro l1 l2 s e
    have hok := tr_ok hT s (by rw [e]; simp)
    obtain ⟨o, g1, g2, g3, g4, g5, g6⟩ := chk_spec _ _ hchk (fun t ht => by cases ht) (l1 := l1.map Stp.sig) (l2 := l2.map Stp.sig) (s := s.sig) (by rw [e]; simp)
    have : o = s.o := by
      have h1 : ops[s.i]? = some o := g1
      rw [hok.op] at h1; exact (Option.some.inj h1).symm
    subst this
    refine ⟨hok.op, fun d hd => ?_, fun q hq => g4 _ (List.mem_map.2 ⟨q, hq, rfl⟩), fun q hq hc => g6 _ (List.mem_map.2 ⟨q, hq, rfl⟩) _ (tr_ok hT q (by rw [e]; simp [hq])).op hc⟩
    rcases g2 d hd with h | ⟨sg, h1, h2⟩
    · cases h
    · obtain ⟨q, hq, rfl⟩ := List.mem_map.1 h1
      exact ⟨q, hq, h2⟩
  -- nothing can come up: all have
  have hdone : ∀ listed : Array Bool, listed.size = ops.length → Region.ready .any ops.toArray listed = [] → ∀ q ∈ tr, listed.getD q.i false = true := by
    intro listed hsz hr
    have key : ∀ (l2 l1 : List Stp), tr = l1 ++ l2 → (∀ q ∈ l1, listed.getD q.i false = true) → ∀ q ∈ l2, listed.getD q.i false = true := by
      intro l2
      induction l2 with
      | nil => intro l1 _ _ q hq; cases hq
      | cons s l2 ih =>
        intro l1 e h1
        have hs : listed.getD s.i false = true := by
          obtain ⟨k1, k2, _, _⟩ := hspec e
          cases hl : listed.getD s.i false with
          | true => rfl
          | false =>
            have hlt : s.i < listed.size := by rw [hsz]; exact (List.getElem?_eq_some_iff.1 k1).1
            have : s.i ∈ Region.ready .any ops.toArray listed := by
              rw [mem_ready]
              refine ⟨?_, s.o, by rw [List.getElem?_toArray]; exact k1, fun ed hed hb => ?_⟩
              · rw [Array.getD_eq_getD_getElem?, Array.getElem?_eq_getElem hlt] at hl ⊢
                exact hl
              · obtain ⟨q, hq, hqe⟩ := k2 _ (deps_mem hed hb)
                rw [← hqe]; exact h1 q hq
            rw [hr] at this; cases this
        intro q hq
        rcases List.mem_cons.1 hq with rfl | hq
        · exact hs
        · refine ih (l1 ++ [s]) (by simp [e]) (fun q hq => ?_) q hq
          rcases List.mem_append.1 hq with h | h
          · exact h1 q h
          · simp at h; rw [h]; exact hs
    exact key tr [] rfl fun q hq => by cases hq
  intro fuel
  induction fuel with
  | zero =>
    intro listed hsz hfu hcl a w inv
    have hl : ∀ q ∈ tr, listed.getD q.i false = true := by
      intro q hq
      have := List.eq_nil_of_length_eq_zero (Nat.le_zero.1 hfu)
      rw [List.filter_eq_nil_iff] at this
      simpa using this q hq
    refine ⟨?_, hQ a w (inv_end hT hl inv)⟩
    rw [List.eq_nil_iff_forall_not_mem]
    intro i hi
    rw [mem_ready] at hi
    obtain ⟨h1, o, h2, _⟩ := hi
    rw [List.getElem?_toArray] at h2
    have hlt := (List.getElem?_eq_some_iff.1 h2).1
    obtain ⟨s, hs, rfl⟩ := hall i hlt
    have h3 := hl s hs
    rw [Array.getD_eq_getD_getElem?, Array.getElem?_eq_getElem (by omega)] at h1 h3
    simp only [Option.getD_some] at h1 h3
    rw [h1] at h3; cases h3
  | succ fuel ih =>
    intro listed hsz hfu hcl a w inv
    refine ⟨fun hr => hQ a w (inv_end hT (hdone listed hsz hr) inv), fun i hi => ?_⟩
    rw [mem_ready] at hi
    obtain ⟨h1, o, h2, h3⟩ := hi
    rw [List.getElem?_toArray] at h2
    have hlt := (List.getElem?_eq_some_iff.1 h2).1
    obtain ⟨s, hs, rfl⟩ := hall i hlt
    obtain ⟨l1, l2, e⟩ := List.append_of_mem hs
    obtain ⟨k1, k2, k3, k4⟩ := hspec e
    rw [k1] at h2; cases h2
    have hLs : listed.getD s.i false = false := by
      rw [Array.getD_eq_getD_getElem?, Array.getElem?_eq_getElem (by omega)] at h1 ⊢
      exact h1
    have hready : ∀ d ∈ deps s.o, listed.getD d false = true := by
      intro d hd
      obtain ⟨ed, g1, g2, rfl⟩ := deps_of hd
      exact h3 ed g1 g2
    have kn2 : ∀ q ∈ l2, q.i ≠ s.i := by
      intro q hq
      obtain ⟨m1, m2, rfl⟩ := List.append_of_mem hq
      have := (hspec (l1 := l1 ++ s :: m1) (l2 := m2) (s := q) (by rw [e]; simp)).2.2.1 s (by simp)
      exact fun h => this h.symm
    have k5 : ∀ q ∈ l1, confl ops q.sig s.sig q.o s.o = true → listed.getD q.i false = true := fun q hq hc => k4 q hq hc _ hcl hready
    have k6 : ∀ q ∈ l2, confl ops s.sig q.sig s.o q.o = true → listed.getD q.i false = false := by
      intro q hq hc
      obtain ⟨m1, m2, rfl⟩ := List.append_of_mem hq
      obtain ⟨j1, _, _, j4⟩ := hspec (l1 := l1 ++ s :: m1) (l2 := m2) (s := q) (by rw [e]; simp)
      cases hl : listed.getD q.i false with
      | false => rfl
      | true =>
        have := j4 s (by simp) hc _ hcl (hcl _ _ j1 hl)
        rw [hLs] at this; cases this
    have hL' : (fun i => (listed.setIfInBounds s.i true).getD i false) = fun i => listed.getD i false || i == s.i := by
      funext i
      simp only [Array.getD_eq_getD_getElem?, Array.getElem?_setIfInBounds]
      by_cases hi : s.i = i
      · subst hi
        simp [show s.i < listed.size by omega]
      · have : (i == s.i) = false := by simp; exact fun h => hi h.symm
        simp [hi, this]
    refine step_at hΦ hT e k3 kn2 hLs hL' (fun q hq j hj hj' => k5 q hq ?_) (fun q hq j hj hj' => k6 q hq ?_) (fun q hq t ht ht' => k5 q hq ?_) (fun q hq t ht ht' => k6 q hq ?_) inv fun a' w' _ inv' => ?_
    · have : meetN q.sig.md s.sig.fp = true := meetN_iff.2 ⟨j, hj', hj⟩
      simp [confl, this]
    · rcases hj with hj | hj
      · have : meetN s.sig.fp q.sig.md = true := meetN_iff.2 ⟨j, hj, hj'⟩
        simp [confl, this]
      · have : meetN s.sig.md q.sig.md = true := meetN_iff.2 ⟨j, hj, hj'⟩
        simp [confl, this]
    · have : meetN (dstL q.o) (looks ops s.o) = true := meetN_iff.2 ⟨t, by simp [dstL, ht], ht'⟩
      simp [confl, this]
    · rcases ht' with ht' | ht'
      · have : meetN (dstL q.o) (looks ops s.o) = true := meetN_iff.2 ⟨t, by simp [dstL, ht], ht'⟩
        simp [confl, this]
      · have : meetN (dstL s.o) (dstL q.o) = true := meetN_iff.2 ⟨t, by simp [dstL, ht'], by simp [dstL, ht]⟩
        simp [confl, this]
    · refine ih (listed.setIfInBounds s.i true) (by simpa using hsz) ?_ ?_ a' w' ?_
      · have hlt2 : (tr.filter fun q => !((listed.setIfInBounds s.i true).getD q.i false)).length < (tr.filter fun q => !(listed.getD q.i false)).length := by
          have e0 : ∀ q : Stp, (listed.setIfInBounds s.i true).getD q.i false = (listed.getD q.i false || q.i == s.i) := fun q => congrFun hL' q.i
          rw [e]
          simp only [List.filter_append, List.filter_cons, List.length_append, e0, hLs]
          simp only [Bool.false_or, beq_self_eq_true, Bool.not_true, Bool.not_false, if_true, Bool.false_eq_true, if_false, List.length_cons]
          have mono : ∀ l : List Stp, (l.filter fun q => !(listed.getD q.i false || q.i == s.i)).length ≤ (l.filter fun q => !(listed.getD q.i false)).length := by
            intro l
            rw [← List.countP_eq_length_filter, ← List.countP_eq_length_filter]
            refine List.countP_mono_left fun x _ hx => ?_
            cases hl : listed.getD x.i false with
            | false => rfl
            | true => rw [hl] at hx; cases hx
          have a1 := mono l1
          have a2 := mono l2
          omega
        omega
      · intro i o ho hi d hd
        have hi : (fun i => (listed.setIfInBounds s.i true).getD i false) i = true := hi
        show (fun i => (listed.setIfInBounds s.i true).getD i false) d = true
        rw [hL'] at hi ⊢
        simp only [Bool.or_eq_true, beq_iff_eq] at hi ⊢
        rcases hi with hi | rfl
        · exact .inl (hcl i o ho hi d hd)
        · rw [k1] at ho; cases ho
          exact .inl (hready d hd)
      · exact inv'
/-- In any order, up to the last operation, which all others are ahead of. -/
theorem any_wpP {Φ : Fence} (hΦ : Free Φ) {n : Nat} {ls : List (Nat × Oper)} {st : St} {tr : List Stp} {st2 : St} (hT : Tr P ops ls st tr st2) {N : Nat} {ol : Oper} (hN : ops.length = N + 1) (hlast : ops[N]? = some ol)
    (hchk : chk ops (tr.map Stp.sig) [] = true) (hcov : covN N (Sig.is (tr.map Stp.sig)) = true) (htr : ∀ s ∈ tr, s.i < N) (hdl : ∀ d ∈ deps ol, d < N)
    (hdeps : ∀ L, Closed ops L → (∀ d ∈ deps ol, L d = true) → ∀ i, i < N → L i = true) {Q : Exit → Act → World → Prop}
    (hQ : ∀ a w K, RepS d F O0 hs0 w0 st2 a w → wpOpIn Φ n P ops.toArray Q N K a w) : ∀ (fuel : Nat) (listed : Array Bool), listed.size = ops.length → listed.getD N false = false →
    (tr.filter fun s => !(listed.getD s.i false)).length + 1 ≤ fuel →
    Closed ops (fun i => listed.getD i false) → ∀ a w, Inv d F O0 hs0 w0 tr st st2 (fun i => listed.getD i false) a w → wpAnyIn Φ n P .any ops.toArray Q fuel listed a w := by
  have hall : ∀ i, i < N → ∃ s ∈ tr, s.i = i := by
    intro i hi
    obtain ⟨sg, h1, h2⟩ := is_mem.1 (covN_spec hcov i hi)
    obtain ⟨s, hs, rfl⟩ := List.mem_map.1 h1
    exact ⟨s, hs, h2⟩
  have hspec : ∀ {l1 l2 : List Stp} {s : Stp}, tr = l1 ++ s :: l2 → ops[s.i]? = some s.o ∧ (∀ d ∈ deps s.o, ∃ q ∈ l1, q.i = d) ∧ (∀ q ∈ l1, q.i ≠ s.i) ∧
      (∀ q ∈ l1, confl ops q.sig s.sig q.o s.o = true → ∀ L, Closed ops L → (∀ d ∈ deps s.o, L d = true) → L q.i = true) := by
    intro l1 l2 s e
    have hok := tr_ok hT s (by rw [e]; simp)
    obtain ⟨o, g1, g2, g3, g4, g5, g6⟩ := chk_spec _ _ hchk (fun t ht => by cases ht) (l1 := l1.map Stp.sig) (l2 := l2.map Stp.sig) (s := s.sig) (by rw [e]; simp)
    have : o = s.o := by
      have h1 : ops[s.i]? = some o := g1
      rw [hok.op] at h1; exact (Option.some.inj h1).symm
    subst this
    refine ⟨hok.op, fun d hd => ?_, fun q hq => g4 _ (List.mem_map.2 ⟨q, hq, rfl⟩), fun q hq hc => g6 _ (List.mem_map.2 ⟨q, hq, rfl⟩) _ (tr_ok hT q (by rw [e]; simp [hq])).op hc⟩
    rcases g2 d hd with h | ⟨sg, h1, h2⟩
    · cases h
    · obtain ⟨q, hq, rfl⟩ := List.mem_map.1 h1
      exact ⟨q, hq, h2⟩
  -- nothing can come up: all have
  have hdone : ∀ listed : Array Bool, listed.size = ops.length → Region.ready .any ops.toArray listed = [] → ∀ q ∈ tr, listed.getD q.i false = true := by
    intro listed hsz hr
    have key : ∀ (l2 l1 : List Stp), tr = l1 ++ l2 → (∀ q ∈ l1, listed.getD q.i false = true) → ∀ q ∈ l2, listed.getD q.i false = true := by
      intro l2
      induction l2 with
      | nil => intro l1 _ _ q hq; cases hq
      | cons s l2 ih =>
        intro l1 e h1
        have hs : listed.getD s.i false = true := by
          obtain ⟨k1, k2, _, _⟩ := hspec e
          cases hl : listed.getD s.i false with
          | true => rfl
          | false =>
            have hlt : s.i < listed.size := by rw [hsz]; exact (List.getElem?_eq_some_iff.1 k1).1
            have : s.i ∈ Region.ready .any ops.toArray listed := by
              rw [mem_ready]
              refine ⟨?_, s.o, by rw [List.getElem?_toArray]; exact k1, fun ed hed hb => ?_⟩
              · rw [Array.getD_eq_getD_getElem?, Array.getElem?_eq_getElem hlt] at hl ⊢
                exact hl
              · obtain ⟨q, hq, hqe⟩ := k2 _ (deps_mem hed hb)
                rw [← hqe]; exact h1 q hq
            rw [hr] at this; cases this
        intro q hq
        rcases List.mem_cons.1 hq with rfl | hq
        · exact hs
        · refine ih (l1 ++ [s]) (by simp [e]) (fun q hq => ?_) q hq
          rcases List.mem_append.1 hq with h | h
          · exact h1 q h
          · simp at h; rw [h]; exact hs
    exact key tr [] rfl fun q hq => by cases hq
  intro fuel
  induction fuel with
  | zero => intro listed _ _ hfu; omega
  | succ fuel ih =>
    intro listed hsz hlN hfu hcl a w inv
    refine ⟨fun hr => ?_, fun i hi => ?_⟩
    · exfalso
      have hd := hdone listed hsz hr
      have hall2 : ∀ i, i < N → listed.getD i false = true := fun i hi => by
        obtain ⟨s, hs, rfl⟩ := hall i hi
        exact hd s hs
      have : N ∈ Region.ready .any ops.toArray listed := by
        rw [mem_ready]
        refine ⟨?_, ol, by rw [List.getElem?_toArray]; exact hlast, fun ed hed hb => hall2 _ (hdl _ (deps_mem hed hb))⟩
        rw [Array.getD_eq_getD_getElem?, Array.getElem?_eq_getElem (by omega)] at hlN ⊢
        exact hlN
      rw [hr] at this; cases this
    rw [mem_ready] at hi
    obtain ⟨h1, o, h2, h3⟩ := hi
    rw [List.getElem?_toArray] at h2
    have hlt := (List.getElem?_eq_some_iff.1 h2).1
    by_cases hiN : i = N
    · subst hiN
      rw [hlast] at h2; cases h2
      have hd : ∀ d ∈ deps ol, listed.getD d false = true := by
        intro d hd
        obtain ⟨ed, g1, g2, rfl⟩ := deps_of hd
        exact h3 ed g1 g2
      have hL := hdeps _ hcl hd
      exact hQ _ _ _ (inv_end hT (fun q hq => hL _ (htr q hq)) inv)
    obtain ⟨s, hs, rfl⟩ := hall i (by omega)
    obtain ⟨l1, l2, e⟩ := List.append_of_mem hs
    obtain ⟨k1, k2, k3, k4⟩ := hspec e
    rw [k1] at h2; cases h2
    have hLs : listed.getD s.i false = false := by
      rw [Array.getD_eq_getD_getElem?, Array.getElem?_eq_getElem (by omega)] at h1 ⊢
      exact h1
    have hready : ∀ d ∈ deps s.o, listed.getD d false = true := by
      intro d hd
      obtain ⟨ed, g1, g2, rfl⟩ := deps_of hd
      exact h3 ed g1 g2
    have kn2 : ∀ q ∈ l2, q.i ≠ s.i := by
      intro q hq
      obtain ⟨m1, m2, rfl⟩ := List.append_of_mem hq
      have := (hspec (l1 := l1 ++ s :: m1) (l2 := m2) (s := q) (by rw [e]; simp)).2.2.1 s (by simp)
      exact fun h => this h.symm
    have k5 : ∀ q ∈ l1, confl ops q.sig s.sig q.o s.o = true → listed.getD q.i false = true := fun q hq hc => k4 q hq hc _ hcl hready
    have k6 : ∀ q ∈ l2, confl ops s.sig q.sig s.o q.o = true → listed.getD q.i false = false := by
      intro q hq hc
      obtain ⟨m1, m2, rfl⟩ := List.append_of_mem hq
      obtain ⟨j1, _, _, j4⟩ := hspec (l1 := l1 ++ s :: m1) (l2 := m2) (s := q) (by rw [e]; simp)
      cases hl : listed.getD q.i false with
      | false => rfl
      | true =>
        have := j4 s (by simp) hc _ hcl (hcl _ _ j1 hl)
        rw [hLs] at this; cases this
    have hL' : (fun i => (listed.setIfInBounds s.i true).getD i false) = fun i => listed.getD i false || i == s.i := by
      funext i
      simp only [Array.getD_eq_getD_getElem?, Array.getElem?_setIfInBounds]
      by_cases hi : s.i = i
      · subst hi
        simp [show s.i < listed.size by omega]
      · have : (i == s.i) = false := by simp; exact fun h => hi h.symm
        simp [hi, this]
    refine step_at hΦ hT e k3 kn2 hLs hL' (fun q hq j hj hj' => k5 q hq ?_) (fun q hq j hj hj' => k6 q hq ?_) (fun q hq t ht ht' => k5 q hq ?_) (fun q hq t ht ht' => k6 q hq ?_) inv fun a' w' _ inv' => ?_
    · have : meetN q.sig.md s.sig.fp = true := meetN_iff.2 ⟨j, hj', hj⟩
      simp [confl, this]
    · rcases hj with hj | hj
      · have : meetN s.sig.fp q.sig.md = true := meetN_iff.2 ⟨j, hj, hj'⟩
        simp [confl, this]
      · have : meetN s.sig.md q.sig.md = true := meetN_iff.2 ⟨j, hj, hj'⟩
        simp [confl, this]
    · have : meetN (dstL q.o) (looks ops s.o) = true := meetN_iff.2 ⟨t, by simp [dstL, ht], ht'⟩
      simp [confl, this]
    · rcases ht' with ht' | ht'
      · have : meetN (dstL q.o) (looks ops s.o) = true := meetN_iff.2 ⟨t, by simp [dstL, ht], ht'⟩
        simp [confl, this]
      · have : meetN (dstL s.o) (dstL q.o) = true := meetN_iff.2 ⟨t, by simp [dstL, ht'], by simp [dstL, ht]⟩
        simp [confl, this]
    · refine ih (listed.setIfInBounds s.i true) (by simpa using hsz) ?_ ?_ ?_ a' w' ?_
      · have := congrFun hL' N
        have this : (listed.setIfInBounds s.i true).getD N false = (listed.getD N false || N == s.i) := this
        rw [this, hlN]
        have hne : ¬ N = s.i := fun h => hiN h.symm
        simpa using hne
      · have hlt2 : (tr.filter fun q => !((listed.setIfInBounds s.i true).getD q.i false)).length < (tr.filter fun q => !(listed.getD q.i false)).length := by
          have e0 : ∀ q : Stp, (listed.setIfInBounds s.i true).getD q.i false = (listed.getD q.i false || q.i == s.i) := fun q => congrFun hL' q.i
          rw [e]
          simp only [List.filter_append, List.filter_cons, List.length_append, e0, hLs]
          simp only [Bool.false_or, beq_self_eq_true, Bool.not_true, Bool.not_false, if_true, Bool.false_eq_true, if_false, List.length_cons]
          have mono : ∀ l : List Stp, (l.filter fun q => !(listed.getD q.i false || q.i == s.i)).length ≤ (l.filter fun q => !(listed.getD q.i false)).length := by
            intro l
            rw [← List.countP_eq_length_filter, ← List.countP_eq_length_filter]
            refine List.countP_mono_left fun x _ hx => ?_
            cases hl : listed.getD x.i false with
            | false => rfl
            | true => rw [hl] at hx; cases hx
          have a1 := mono l1
          have a2 := mono l2
          omega
        omega
      · intro i o ho hi d hd
        have hi : (fun i => (listed.setIfInBounds s.i true).getD i false) i = true := hi
        show (fun i => (listed.setIfInBounds s.i true).getD i false) d = true
        rw [hL'] at hi ⊢
        simp only [Bool.or_eq_true, beq_iff_eq] at hi ⊢
        rcases hi with hi | rfl
        · exact .inl (hcl i o ho hi d hd)
        · rw [k1] at ho; cases ho
          exact .inl (hready d hd)
      · exact inv'
end
end Go.Eng
namespace Go.Eng
open Go
/-- A nil slice becomes a slice of one's own, without elements: in register r (or its part c), or in the block r. -/
structure Bind where
  row : Bool
  r : Nat
  c : Nat
  ty : TypeId
  k : Nat
def nilK (x : Sv) (k : Prop) : Prop :=
  match x with
  | .c (.v (.slice none 0 0)) => k
  | _ => False
def nilC (x : Cell) (k : Prop) : Prop :=
  match x with
  | .v (.slice none 0 0) => k
  | _ => False
def bindRV (x : RV) (c nx : Nat) (k : RV → Prop) : Prop :=
  match x with
  | .s (.c x) => nilC x (k (.s (.c (.osl nx))))
  | .s (.agg l) => nthK l c fun x => nilC x (setK l c (.osl nx) fun l' => k (.s (.agg l')))
  | .tup l => nthK l c fun x => nilK x (setK l c (.c (.osl nx)) fun l' => k (.tup l'))
  | _ => False
/-- A slice of one's own that is to be read alone. -/
def frzC (bs : List (Nat × Blk)) (x : Cell) (k : Nat → Nat → Nat → (Nat → Nat → Cell) → Prop) : Prop :=
  match x with
  | .osl j => lookK bs j fun b => match b with
    | .slc _ q n g => k j q n g
    | .fsl q n g => k j q n g
    | _ => False
  | _ => False
theorem frzC_spec {bs : List (Nat × Blk)} {x : Cell} {k : Nat → Nat → Nat → (Nat → Nat → Cell) → Prop} (h : frzC bs x k) :
    ∃ j b q n g, x = .osl j ∧ look bs j = some b ∧ ((∃ ty, b = .slc ty q n g) ∨ b = .fsl q n g) ∧ k j q n g := by
  unfold frzC at h
  split at h
  · obtain ⟨b, hb, h⟩ := lookK_spec _ _ _ h
    split at h
    · exact ⟨_, _, _, _, _, rfl, hb, .inl ⟨_, rfl⟩, h⟩
    · exact ⟨_, _, _, _, _, rfl, hb, .inr rfl, h⟩
    · exact h.elim
  · exact h.elim
def bindsK : List Bind → St → (St → Prop) → Prop
  | [], st, K => K st
  | z :: l, ⟨regs, bs, nx⟩, K => match z.row with
    | false => nthK regs z.r fun x => bindRV x z.c nx fun x' => setK regs z.r x' fun regs' => litK 400 0 (nx + 1) fun nx' =>
        putK bs nx (.slc z.ty z.k 0 fun _ _ => .any) fun bs' => bindsK l ⟨regs', bs', nx'⟩ K
    | true => lookK bs z.r fun b => match b with
      | .row ty cs => nthK cs z.c fun x => match z.k with
        | 0 => frzC bs x fun j q n g => setK cs z.c (.ro n q false g) fun cs' => putK bs z.r (.row ty cs') fun bs1 => putK bs1 j (.fsl q n g) fun bs' => bindsK l ⟨regs, bs', nx⟩ K
        | _ + 1 => nilC x (setK cs z.c (.osl nx) fun cs' => litK 400 0 (nx + 1) fun nx' =>
          putK bs z.r (.row ty cs') fun bs1 => putK bs1 nx (.slc z.ty z.k 0 fun _ _ => .any) fun bs' => bindsK l ⟨regs, bs', nx'⟩ K)
      | _ => False
def idB : Nat → Nat → List Nat → Bool
  | _, 0, _ => true
  | i, m + 1, x :: l => match Nat.beq i x with
    | true => idB (i + 1) m l
    | false => false
  | _, _ + 1, [] => false
def lenB : Nat → List Nat → Bool
  | 0, [] => true
  | n + 1, _ :: l => lenB n l
  | _, _ => false
structure EntP (m n : Nat) (p : List Bind → List Nat → Prop) : Prop where
  ex : ∃ zs σ, p zs σ
/-- st holds what st' tells. -/
def EntK (m : Nat) (st st' : St) : Prop := EntP m st'.next fun zs σ => bindsK zs st fun st =>
  rvsEq st.blks σ st'.regs st.regs ∧ blksEq st.blks σ st'.blks ∧ lenB st'.next σ = true ∧ idB 0 m σ = true ∧ nodupB σ = true ∧ disjB σ (lentRs st'.regs st.regs) = true
theorem idB_spec : ∀ (l : List Nat) (i m : Nat), idB i m l = true → ∀ t, t < m → l[t]? = some (i + t)
  | _, _, 0, _, t, ht => by omega
  | [], _, _ + 1, h, _, _ => by cases h
  | x :: l, i, m + 1, h, t, ht => by
    unfold idB at h
    split at h
    · rename_i he
      have he := Nat.eq_of_beq_eq_true he
      subst he
      cases t with
      | zero => rfl
      | succ t =>
        have := idB_spec l (i + 1) m h t (by omega)
        simp only [List.getElem?_cons_succ, this]
        congr 1; omega
    · cases h
theorem lenB_spec : ∀ (n : Nat) (l : List Nat), lenB n l = true → l.length = n
  | 0, [], _ => rfl
  | 0, _ :: _, h => by cases h
  | n + 1, [], h => by cases h
  | n + 1, _ :: l, h => by simp [lenB_spec n l h]
section
variable {d : Dfr} {F : Nat → Prop} {O0 : Nat → Prop} {hs0 : Names} {w0 : World}
/-- One more name, for what owns nothing. -/
theorem rep_bind {st : St} {a : Act} {w : World} (h : RepS d F O0 hs0 w0 st a w) {regs' : List RV} {bs' : List (Nat × Blk)} {ty : TypeId} {k : Nat}
    (hr : ∀ O w hs tmps, hs st.next = some (.slice none 0 0) → Regs O w hs (fun t => st.regs[t]?) tmps → Regs O w hs (fun t => regs'[t]?) tmps)
    (hb : ∀ j b, look bs' j = some b → (j = st.next ∧ b = .slc ty k 0 fun _ _ => .any) ∨ ∃ b0, look st.blks j = some b0 ∧
      (∀ u, owner b u = owner b0 u) ∧ ∀ O w hs u, hs st.next = some (.slice none 0 0) → BlkRel O w hs b0 u → BlkRel O w hs b u) :
    RepS d F O0 hs0 w0 ⟨regs', bs', st.next + 1⟩ a w := by
  obtain ⟨⟨hs, hw, hR, hf, hS⟩, hd⟩ := h
  have hext : ∀ j u, hs j = some u → (fun j => if j = st.next then some (Value.slice none 0 0) else hs j) j = some u := by
    intro j u hj
    have : j ≠ st.next := by rintro rfl; rw [hf _ (Nat.le_refl _)] at hj; cases hj
    simp [this, hj]
  have hnew : (fun j => if j = st.next then some (Value.slice none 0 0) else hs j) st.next = some (.slice none 0 0) := by simp
  have hblk : ∀ j b u x, look bs' j = some b → (fun j => if j = st.next then some (Value.slice none 0 0) else hs j) j = some u → owner b u = some x →
      ∃ b0, look st.blks j = some b0 ∧ hs j = some u ∧ owner b0 u = some x := by
    intro j b u x hj hu ho
    rcases hb j b hj with ⟨rfl, rfl⟩ | ⟨b0, h1, h2, h3⟩
    · rw [hnew] at hu; cases hu; cases ho
    · obtain ⟨v, hv, _⟩ := hw.blk j b0 h1
      have := hext j v hv
      rw [hu] at this; cases this
      exact ⟨b0, h1, hv, by rw [← h2]; exact ho⟩
  have hown : ∀ x, own (fun j => if j = st.next then some (Value.slice none 0 0) else hs j) (look bs') x → own hs (look st.blks) x := by
    rintro x ⟨j, b, u, hj, hu, ho⟩
    obtain ⟨b0, h1, h2, h3⟩ := hblk j b u x hj hu ho
    exact ⟨j, b0, u, h1, h2, h3⟩
  have hO : ∀ x, Osum F (fun j => if j = st.next then some (Value.slice none 0 0) else hs j) (look bs') x → Osum F hs (look st.blks) x := fun x hx => hx.imp id (hown x)
  refine ⟨⟨fun j => if j = st.next then some (.slice none 0 0) else hs j, ⟨?_, ?_, hw.lt, fun x hx h => hw.apart x hx (hown x h)⟩, ?_, ?_, ?_, hS.fr, fun x hx => hS.own x (hown x hx)⟩, hd⟩
  · intro j b hj
    rcases hb j b hj with ⟨rfl, rfl⟩ | ⟨b0, h1, h2, h3⟩
    · exact ⟨_, hnew, .inl ⟨rfl, rfl⟩⟩
    · obtain ⟨v, hv, hr0⟩ := hw.blk j b0 h1
      exact ⟨v, hext j v hv, h3 _ _ _ _ hnew (BlkRel.mono (Nat.le_refl _) (fun _ _ _ => rfl) (fun x h => .inl (hO x h)) hext (fun _ _ => rfl) hr0)⟩
  · intro i j bi bj ui uj x hbi hbj hui huj hoi hoj
    obtain ⟨b1, h1, h2, h3⟩ := hblk i bi ui x hbi hui hoi
    obtain ⟨b2, h4, h5, h6⟩ := hblk j bj uj x hbj huj hoj
    exact hw.sep i j b1 b2 ui uj x h1 h4 h2 h5 h3 h6
  · refine hr _ _ _ _ hnew fun t rv ht => ?_
    obtain ⟨u, hu, hru⟩ := hR t rv ht
    exact ⟨u, hu, RVRel.mono (Nat.le_refl _) (fun _ _ _ => rfl) (fun x h => .inl (hO x h)) hext hru⟩
  · intro j hj
    have hj : st.next + 1 ≤ j := hj
    have : j ≠ st.next := by omega
    simp only [this, if_false]
    exact hf j (by omega)
  · exact fun j u hj => hext j u (hS.names j u hj)
theorem osl_nil {O : Nat → Prop} {w : World} {hs : Names} {j : Nat} {u : Value} (h : hs j = some (.slice none 0 0)) (hu : u = .slice none 0 0) : Rel O w (.osl j) hs u := by
  subst hu
  exact ⟨h, _, _, _, rfl⟩
theorem nilC_spec {x : Cell} {k : Prop} (h : nilC x k) : x = .v (.slice none 0 0) ∧ k := by
  unfold nilC at h
  split at h
  · exact ⟨rfl, h⟩
  · exact h.elim
theorem nilK_spec {x : Sv} {k : Prop} (h : nilK x k) : x = .c (.v (.slice none 0 0)) ∧ k := by
  unfold nilK at h
  split at h
  · exact ⟨rfl, h⟩
  · exact h.elim
theorem bindRV_spec {x : RV} {c nx : Nat} {k : RV → Prop} (h : bindRV x c nx k) : ∃ x', k x' ∧ ∀ O w hs u, hs nx = some (.slice none 0 0) → RVRel O w x hs u → RVRel O w x' hs u := by
  unfold bindRV at h
  split at h
  · obtain ⟨rfl, h⟩ := nilC_spec h
    exact ⟨_, h, fun O w hs u hn hu => osl_nil (O := O) (w := w) hn hu.1⟩
  · obtain ⟨y, h1, h⟩ := nthK_spec _ _ _ h
    obtain ⟨rfl, h⟩ := nilC_spec h
    obtain ⟨hlt, h⟩ := setK_spec _ _ _ _ h
    refine ⟨_, h, fun O w hs u hn ⟨cs, e1, e2, e3⟩ => ⟨cs, e1, by simp [e2], fun i d v hd hv => ?_⟩⟩
    rw [List.getElem?_set] at hd
    split at hd
    · rename_i e
      subst e
      simp [hlt] at hd
      subst hd
      exact osl_nil (O := O) (w := w) hn (e3 _ _ v h1 hv).1
    · exact e3 i d v hd hv
  · obtain ⟨y, h1, h⟩ := nthK_spec _ _ _ h
    obtain ⟨rfl, h⟩ := nilK_spec h
    obtain ⟨hlt, h⟩ := setK_spec _ _ _ _ h
    refine ⟨_, h, fun O w hs u hn ⟨cs, e1, e2, e3⟩ => ⟨cs, e1, by simp [e2], fun i d v hd hv => ?_⟩⟩
    rw [List.getElem?_set] at hd
    split at hd
    · rename_i e
      subst e
      simp [hlt] at hd
      subst hd
      exact osl_nil (O := O) (w := w) hn (e3 _ _ v h1 hv).1
    · exact e3 i d v hd hv
  · exact h.elim
/-- A slice of one's own, in a row, is read alone from now on. -/
theorem rep_freeze {st : St} {a : Act} {w : World} (h : RepS d F O0 hs0 w0 st a w) {r j c : Nat} {ty : TypeId} {cs : List Cell} {b : Blk} {q n : Nat} {g : Nat → Nat → Cell} (hr : look st.blks r = some (.row ty cs)) (hc : cs[c]? = some (.osl j))
    (hb : look st.blks j = some b) (hk : (∃ ty, b = .slc ty q n g) ∨ b = .fsl q n g) {bs' : List (Nat × Blk)}
    (hbs : ∀ i, look bs' i = if j = i then some (.fsl q n g) else if r = i then some (.row ty (cs.set c (.ro n q false g))) else look st.blks i) :
    RepS d F O0 hs0 w0 ⟨st.regs, bs', st.next⟩ a w := by
  obtain ⟨⟨hs, hw, hR, hf, hS⟩, hd⟩ := h
  have htr : ∀ i b' u x, look bs' i = some b' → hs i = some u → owner b' u = some x → i ≠ j ∧ ∃ b0, look st.blks i = some b0 ∧ owner b0 u = some x := by
    intro i b' u x hi hu ho
    rw [hbs] at hi
    by_cases e : j = i
    · rw [if_pos e] at hi; cases hi; cases ho
    · rw [if_neg e] at hi
      refine ⟨fun h => e h.symm, ?_⟩
      by_cases e2 : r = i
      · rw [if_pos e2] at hi; cases hi
        subst e2
        exact ⟨_, hr, by rw [← ho]; exact (owner_row _ _ _ _ u).symm⟩
      · rw [if_neg e2] at hi
        exact ⟨b', hi, ho⟩
  have hown : ∀ x, own hs (look bs') x → own hs (look st.blks) x := by
    rintro x ⟨i, b', u, hi, hu, ho⟩
    obtain ⟨_, b0, h1, h2⟩ := htr i b' u x hi hu ho
    exact ⟨i, b0, u, h1, hu, h2⟩
  have hO : ∀ x, Osum F hs (look bs') x → Osum F hs (look st.blks) x := fun x hx => hx.imp id (hown x)
  have hlent : ∀ x h, hs j = some h → owner b h = some x → ¬ Osum F hs (look bs') x := by
    intro x h hj ho hx
    rcases hx with hx | ⟨i, b', u, hi, hu, ho'⟩
    · exact hw.apart x hx ⟨j, b, h, hb, hj, ho⟩
    · obtain ⟨h1, b0, h2, h3⟩ := htr i b' u x hi hu ho'
      exact h1 (hw.sep i j b0 b u h x h2 hb hu hj h3 ho)
  have hsub : b = .fsl q n g ∨ ∃ ty, b = .slc ty q n g := hk.symm
  obtain ⟨pv, hpv, x0, cs0, hp1, hp2, hp3, hp4⟩ := hw.blk r _ hr
  have hclt : c < cs0.size := by rw [hp3]; exact (List.getElem?_eq_some_iff.1 hc).1
  have hosl := hp4 c _ _ hc (Array.getElem?_eq_getElem hclt)
  have hro : Rel (Osum F hs (look bs')) w (.ro n q false g) hs cs0[c] :=
    cellEq_rel (bs := st.blks) (σ := []) hw hO (fun i j h hi => by simp at hi) (.ro n q false g) (.osl j)
      (fun j' hj' => by
        have : j' = j := by simpa [lentC] using hj'
        subst this
        exact ⟨b, hb, hb, hlent⟩)
      (by
        refine ⟨rfl, ?_⟩
        have hl : ∀ (l : List (Nat × Blk)) (k : Blk → Prop) (j : Nat) (b : Blk), look l j = some b → k b → lookK l j k := by
          intro l
          induction l with
          | nil => intro k j b h; cases h
          | cons p l ih =>
            intro k j b h hk
            obtain ⟨i, b1⟩ := p
            unfold lookK
            by_cases e : i = j
            · subst e
              rw [Nat.beq_refl]
              simp [look] at h
              subst h
              exact hk
            · rw [beq_false_of_ne e]
              simp [look, e] at h
              exact ih k j b h hk
        refine hl _ _ _ _ hb ?_
        rcases hk with ⟨ty', rfl⟩ | rfl
        · exact ⟨rfl, rfl, fun _ _ _ _ => rfl⟩
        · exact ⟨rfl, rfl, fun _ _ _ _ => rfl⟩) hosl
  have hmono : ∀ (i : Nat) (b' : Blk) u, BlkRel (Osum F hs (look st.blks)) w hs b' u → BlkRel (Osum F hs (look bs')) w hs b' u := fun i b' u h =>
    BlkRel.mono (Nat.le_refl _) (fun _ _ _ => rfl) (fun x h => .inl (hO x h)) (fun _ _ h => h) (fun _ _ => rfl) h
  have hjv : hs j = some cs0[c] := hosl.1
  refine ⟨⟨hs, ⟨fun i b' hi => ?_, fun i i' bi bi' hi hi' x h1 h2 h3 h4 h5 h6 => ?_, hw.lt, fun x hx h => hw.apart x hx (hown x h)⟩, fun t rv ht => ?_, hf, ⟨hS.names, hS.fr, fun x hx => hS.own x (hown x hx)⟩⟩, hd⟩
  · rw [hbs] at hi
    by_cases e : j = i
    · rw [if_pos e] at hi; cases hi
      subst e
      exact ⟨_, hjv, hro⟩
    · rw [if_neg e] at hi
      by_cases e2 : r = i
      · rw [if_pos e2] at hi; cases hi
        subst e2
        refine ⟨pv, hpv, x0, cs0, hp1, hp2, by simp [hp3], fun i d v hd hv => ?_⟩
        rw [List.getElem?_set] at hd
        split at hd
        · rename_i e3
          subst e3
          rw [if_pos (by rw [← hp3]; exact hclt)] at hd
          cases hd
          rw [Array.getElem?_eq_getElem hclt] at hv
          cases hv
          exact hro
        · exact Rel.mono (Nat.le_refl _) (fun _ _ _ => rfl) (fun x h => .inl (hO x h)) _ _ _ _ (fun _ _ h => h) (hp4 i d v hd hv)
      · rw [if_neg e2] at hi
        obtain ⟨u, hu, hru⟩ := hw.blk i b' hi
        exact ⟨u, hu, hmono i b' u hru⟩
  · obtain ⟨_, b1, g1, g2⟩ := htr i bi hi x h1 h3 h5
    obtain ⟨_, b2, g3, g4⟩ := htr i' bi' hi' x h2 h4 h6
    exact hw.sep i i' b1 b2 hi hi' x g1 g3 h3 h4 g2 g4
  · obtain ⟨u, hu, hru⟩ := hR t rv ht
    exact ⟨u, hu, RVRel.mono (Nat.le_refl _) (fun _ _ _ => rfl) (fun x h => .inl (hO x h)) (fun _ _ h => h) hru⟩
theorem binds_rep : ∀ (zs : List Bind) (st : St) (K : St → Prop) (a : Act) (w : World), RepS d F O0 hs0 w0 st a w → bindsK zs st K → ∃ st2, K st2 ∧ RepS d F O0 hs0 w0 st2 a w
  | [], st, K, a, w, h, hk => ⟨st, hk, h⟩
  | z :: l, ⟨regs, bs, nx⟩, K, a, w, h, hk => by
    unfold bindsK at hk
    split at hk
    · obtain ⟨x, h1, hk⟩ := nthK_spec _ _ _ hk
      obtain ⟨x', hk, h2⟩ := bindRV_spec hk
      obtain ⟨hlt, hk⟩ := setK_spec _ _ _ _ hk
      have hk := litK_spec _ _ _ _ hk
      obtain ⟨bs', hk, h3⟩ := putK_spec _ _ _ _ hk
      refine binds_rep l _ K a w (rep_bind (ty := z.ty) (k := z.k) h (fun O w hs tmps hn hR t rv ht => ?_) fun j b hj => ?_) hk
      · have ht : (regs.set z.r x')[t]? = some rv := ht
        rw [List.getElem?_set] at ht
        split at ht
        · rename_i e
          subst e
          simp [hlt] at ht
          subst ht
          obtain ⟨u, hu, hr⟩ := hR z.r x h1
          exact ⟨u, hu, h2 _ _ _ _ hn hr⟩
        · exact hR t rv ht
      · rw [h3] at hj
        split at hj
        · rename_i e; cases hj; exact .inl ⟨e.symm, rfl⟩
        · exact .inr ⟨b, hj, fun _ => rfl, fun _ _ _ _ _ h => h⟩
    · obtain ⟨b0, h1, hk⟩ := lookK_spec _ _ _ hk
      split at hk
      case h_2 => exact hk.elim
      rename_i ty cs
      obtain ⟨x, h2, hk⟩ := nthK_spec _ _ _ hk
      split at hk
      · obtain ⟨j, b, q, n, g, rfl, hb, hbk, hk⟩ := frzC_spec hk
        obtain ⟨_, hk⟩ := setK_spec _ _ _ _ hk
        obtain ⟨bs1, hk, h3⟩ := putK_spec _ _ _ _ hk
        obtain ⟨bs', hk, h4⟩ := putK_spec _ _ _ _ hk
        exact binds_rep l _ K a w (rep_freeze h h1 h2 hb hbk fun i => by rw [h4, h3]) hk
      obtain ⟨rfl, hk⟩ := nilC_spec hk
      obtain ⟨hlt, hk⟩ := setK_spec _ _ _ _ hk
      have hk := litK_spec _ _ _ _ hk
      obtain ⟨bs1, hk, h3⟩ := putK_spec _ _ _ _ hk
      obtain ⟨bs', hk, h4⟩ := putK_spec _ _ _ _ hk
      refine binds_rep l _ K a w (rep_bind (ty := z.ty) (k := z.k) h (fun O w hs tmps hn hR t rv ht => hR t rv ht) fun j b hj => ?_) hk
      rw [h4, h3] at hj
      split at hj
      · rename_i e; cases hj; exact .inl ⟨e.symm, rfl⟩
      · split at hj
        · rename_i e
          subst e
          cases hj
          refine .inr ⟨_, h1, fun u => owner_row _ _ _ _ u, fun O w hs u hn hu => ?_⟩
          obtain ⟨y, cs', e1, e2, e3, e4⟩ := hu
          refine ⟨y, cs', e1, e2, by simp [e3], fun i d v hd hv => ?_⟩
          rw [List.getElem?_set] at hd
          split at hd
          · rename_i e
            subst e
            simp [hlt] at hd
            subst hd
            exact osl_nil hn (e4 _ _ v h2 hv).1
          · exact e4 i d v hd hv
        · exact .inr ⟨b, hj, fun _ => rfl, fun _ _ _ _ _ h => h⟩
theorem lentC_look {bs : List (Nat × Blk)} {σ : List Nat} {c c' : Cell} (h : cellEq bs σ c c') : ∀ j ∈ lentC c c', ∃ b, look bs j = some b := by
  intro j hj
  unfold lentC at hj
  split at hj
  · simp at hj; subst hj
    unfold cellEq at h
    obtain ⟨b, hb, _⟩ := lookK_spec _ _ _ h.2
    exact ⟨b, hb⟩
  · simp at hj; subst hj
    unfold cellEq at h
    obtain ⟨b, hb, _⟩ := lookK_spec _ _ _ h
    exact ⟨b, hb⟩
  · cases hj
theorem lentCs_look {bs : List (Nat × Blk)} {σ : List Nat} : ∀ (l l' : List Cell), cellsEq bs σ l l' → ∀ j ∈ lentCs l l', ∃ b, look bs j = some b
  | [], [], _, j, hj => by cases hj
  | c :: l, c' :: l', h, j, hj => by
    rcases List.mem_append.1 hj with hj | hj
    · exact lentC_look h.1 j hj
    · exact lentCs_look l l' h.2 j hj
  | [], _ :: _, h, _, _ => h.elim
  | _ :: _, [], h, _, _ => h.elim
theorem lentS_look {bs : List (Nat × Blk)} {σ : List Nat} {c c' : Sv} (h : svEq bs σ c c') : ∀ j ∈ lentS c c', ∃ b, look bs j = some b := by
  cases c <;> cases c' <;> first | exact lentC_look h | exact lentCs_look _ _ h | exact h.elim
theorem lentT_look {bs : List (Nat × Blk)} {σ : List Nat} : ∀ (l l' : List Sv), svsEq bs σ l l' → ∀ j ∈ lentT l l', ∃ b, look bs j = some b
  | [], [], _, j, hj => by cases hj
  | c :: l, c' :: l', h, j, hj => by
    rcases List.mem_append.1 hj with hj | hj
    · exact lentS_look h.1 j hj
    · exact lentT_look l l' h.2 j hj
  | [], _ :: _, h, _, _ => h.elim
  | _ :: _, [], h, _, _ => h.elim
theorem lentR_look {bs : List (Nat × Blk)} {σ : List Nat} {c c' : RV} (h : rvEq bs σ c c') : ∀ j ∈ lentR c c', ∃ b, look bs j = some b := by
  cases c <;> cases c' <;> first | exact lentS_look h | exact lentT_look _ _ h | (intro j hj; cases hj; done) | exact h.elim
theorem lentRs_look {bs : List (Nat × Blk)} {σ : List Nat} : ∀ (l l' : List RV), rvsEq bs σ l l' → ∀ j ∈ lentRs l l', ∃ b, look bs j = some b
  | [], [], _, j, hj => by cases hj
  | c :: l, c' :: l', h, j, hj => by
    rcases List.mem_append.1 hj with hj | hj
    · exact lentR_look h.1 j hj
    · exact lentRs_look l l' h.2 j hj
  | [], _ :: _, h, _, _ => h.elim
  | _ :: _, [], h, _, _ => h.elim
/-- What is told, at the names that it gives. -/
theorem ent_core {st : St} {a : Act} {w : World} (h : RepS d F O0 hs0 w0 st a w) {m : Nat} (hm : ∀ j, m ≤ j → hs0 j = none) {regs : List RV} {blks : List (Nat × Blk)} {σ : List Nat}
    (hid : idB 0 m σ = true) (hnd : nodupB σ = true) (hdis : disjB σ (lentRs regs st.regs) = true) (hr : rvsEq st.blks σ regs st.regs) (hb : blksEq st.blks σ blks) :
    ∃ hs : Names, WRep F hs (look blks) w ∧ Regs (Osum F hs (look blks)) w hs (fun t => regs[t]?) a.tmps ∧ (∀ j, σ.length ≤ j → hs j = none) ∧ Since O0 hs0 w0 hs (look blks) w := by
  obtain ⟨⟨hs, hw, hR, hf, hS⟩, hd⟩ := h
  have hσget : ∀ (i j : Nat), σ[i]? = some j → i < σ.length ∧ σ.getD i 0 = j := fun i j h => ⟨(List.getElem?_eq_some_iff.1 h).1, by rw [List.getD_eq_getElem?_getD, h]; rfl⟩
  have hσ : ∀ (i j : Nat) (h : Value), σ[i]? = some j → hs j = some h → (fun i => if i < σ.length then hs (σ.getD i 0) else none) i = some h := by
    intro i j h h1 h2
    obtain ⟨h3, h4⟩ := hσget i j h1
    simp only [h3, if_true, h4, h2]
  have hblk : ∀ i b, look blks i = some b → ∃ j b' h, σ[i]? = some j ∧ look st.blks j = some b' ∧ hs j = some h ∧ blkEq σ b b' ∧ BlkRel (Osum F hs (look st.blks)) w hs b' h := by
    intro i b hbi
    obtain ⟨j, b', h1, h2, h3⟩ := blksEq_spec _ hb (i, b) (look_mem _ i b hbi)
    obtain ⟨h, hh, hr⟩ := hw.blk j b' h2
    exact ⟨j, b', h, h1, h2, hh, h3, hr⟩
  have hown : ∀ x, own (fun i => if i < σ.length then hs (σ.getD i 0) else none) (look blks) x → ∃ i j b' h, σ[i]? = some j ∧ look st.blks j = some b' ∧ hs j = some h ∧ owner b' h = some x ∧ ∃ b, look blks i = some b := by
    rintro x ⟨i, b, u, hb, hu, hx⟩
    obtain ⟨j, b', h, h1, h2, h3, h4, h5⟩ := hblk i b hb
    have hu2 : some h = some u := (hσ i j h h1 h3).symm.trans hu
    rw [← Option.some.inj hu2] at hx
    exact ⟨i, j, b', h, h1, h2, h3, (blkEq_rel (O' := Osum F hs (look st.blks)) hw (fun _ h => h) hσ b b' h4 h5).2 x hx, b, hb⟩
  have hO1 : ∀ x, own (fun i => if i < σ.length then hs (σ.getD i 0) else none) (look blks) x → own hs (look st.blks) x := by
    intro x hx
    obtain ⟨i, j, b', h, _, h2, h3, h4, _⟩ := hown x hx
    exact ⟨j, b', h, h2, h3, h4⟩
  have hO : ∀ x, Osum F (fun i => if i < σ.length then hs (σ.getD i 0) else none) (look blks) x → Osum F hs (look st.blks) x := fun x hx => hx.imp id (hO1 x)
  have hLent : ∀ j ∈ lentRs regs st.regs, Lent st.blks hs (look st.blks) (Osum F (fun i => if i < σ.length then hs (σ.getD i 0) else none) (look blks)) j := by
    intro j hj
    obtain ⟨b, hbj⟩ := lentRs_look _ _ hr j hj
    refine ⟨b, hbj, hbj, fun x h hh hx hO' => ?_⟩
    rcases hO' with hF | hO'
    · exact hw.apart x hF ⟨j, b, h, hbj, hh, hx⟩
    · obtain ⟨i, j', b', h', h1, h2, h3, h4, _⟩ := hown x hO'
      have e := hw.sep _ _ _ _ _ _ x hbj h2 hh h3 hx h4
      have hj' : j' ∈ σ := List.mem_of_getElem? h1
      have hd := List.all_eq_true.1 hdis j' hj'
      simp only [Bool.not_eq_true', List.contains_eq_mem, decide_eq_false_iff_not] at hd
      exact hd (by rw [← e]; exact hj)
  obtain ⟨hlen, hreg⟩ := rvsEq_rel hw hO hσ regs st.regs hLent hr
  refine ⟨fun i => if i < σ.length then hs (σ.getD i 0) else none, ⟨?_, ?_, hw.lt, fun x hx h => hw.apart x hx (hO1 x h)⟩, fun t rv ht => ?_, fun j hj => ?_, ⟨fun j h hj => ?_, hS.fr, fun x hx => hS.own x (hO1 x hx)⟩⟩
  · intro i b hbi
    obtain ⟨j, b', h, h1, h2, h3, h4, h5⟩ := hblk i b hbi
    exact ⟨h, hσ i j h h1 h3, (blkEq_rel hw hO hσ b b' h4 h5).1⟩
  · intro i i' bi bj hi hi' x hbi hbj hhi hhj hoi hoj
    obtain ⟨j, b', h, h1, h2, h3, h4, h5⟩ := hblk i bi hbi
    obtain ⟨j', b'', h', h1', h2', h3', h4', h5'⟩ := hblk i' bj hbj
    have hu2 : some h = some hi := (hσ i j h h1 h3).symm.trans hhi
    have hu2' : some h' = some hi' := (hσ i' j' h' h1' h3').symm.trans hhj
    rw [← Option.some.inj hu2] at hoi
    rw [← Option.some.inj hu2'] at hoj
    have e1 := (blkEq_rel (O' := Osum F hs (look st.blks)) hw (fun _ h => h) hσ bi b' h4 h5).2 x hoi
    have e2 := (blkEq_rel (O' := Osum F hs (look st.blks)) hw (fun _ h => h) hσ bj b'' h4' h5').2 x hoj
    have := hw.sep j j' b' b'' h h' x h2 h2' h3 h3' e1 e2
    subst this
    exact nodupB_spec σ hnd i i' j h1 h1'
  · have hlt : t < st.regs.length := by rw [hlen]; exact (List.getElem?_eq_some_iff.1 ht).1
    obtain ⟨u, hu, _⟩ := hR t _ (List.getElem?_eq_getElem hlt)
    refine ⟨u, hu, hreg t rv u ht fun c' hc' => ?_⟩
    obtain ⟨u', hu', hru⟩ := hR t c' hc'
    rw [hu] at hu'; cases hu'
    exact hru
  · have : ¬ j < σ.length := by omega
    simp only [this, if_false]
  · have hjm : j < m := by
      rcases Nat.lt_or_ge j m with h' | h'
      · exact h'
      · rw [hm j h'] at hj; cases hj
    have := idB_spec σ 0 m hid j hjm
    rw [Nat.zero_add] at this
    exact hσ j j h this (hS.names j h hj)
end
end Go.Eng
namespace Go.Eng
open Go
/-- From w to w' only objects that hold neither cells nor entries have turned, none of them below b. -/
structure Oth (b : Nat) (w w' : World) : Prop where
  os : w'.os = w.os
  tape : w'.tape = w.tape
  output : w'.output = w.output
  size : w.heap.size ≤ w'.heap.size
  low : ∀ x, x < b → w'.heap[x]? = w.heap[x]?
  same : ∀ (x : Nat) (o : Obj), w.heap[x]? = some o → cm o = true → w'.heap[x]? = some o
theorem Oth.alloc (b : Nat) (w : World) (o : Obj) (hb : b ≤ w.heap.size) : Oth b w (w.alloc o) where
  os := rfl
  tape := rfl
  output := rfl
  size := by simp
  low := fun x hx => by
    show (w.heap.push o)[x]? = _
    rw [Array.getElem?_push, if_neg (by omega)]
  same := fun x p hx _ => by
    show (w.heap.push o)[x]? = _
    have := (Array.getElem?_eq_some_iff.1 hx).1
    rw [Array.getElem?_push, if_neg (by omega)]
    exact hx
theorem Oth.put {b : Nat} {w : World} {l : Nat} {o : Obj} (o' : Obj) (hl : w.heap[l]? = some o) (ho : cm o = false) (hb : b ≤ l) : Oth b w (w.putObj l o') where
  os := rfl
  tape := rfl
  output := rfl
  size := by simp
  low := fun x hx => World.putObj_heap_other (by omega)
  same := fun x p hx hp => by
    have : x ≠ l := by
      rintro rfl
      rw [hl] at hx; cases hx
      rw [ho] at hp; cases hp
    exact (World.putObj_heap_other this).trans hx
theorem Oth.trans {b : Nat} {u v w : World} (h : Oth b u v) (k : Oth b v w) : Oth b u w where
  os := k.os.trans h.os
  tape := k.tape.trans h.tape
  output := k.output.trans h.output
  size := Nat.le_trans h.size k.size
  low := fun x hx => (k.low x hx).trans (h.low x hx)
  same := fun x o hx ho => k.same x o (h.same x o hx ho) ho
theorem Oth.cell {b : Nat} {w w' : World} (h : Oth b w w') {a : Addr} {v : Value} (hc : w.cell? a = some v) : w'.cell? a = some v := by
  have h0 := hc
  simp only [World.cell?] at h0
  split at h0
  · rename_i c ty pr hb
    have := h.same a.block _ hb rfl
    simp only [World.cell?, this]
    exact h0
  · cases h0
theorem Rel.oth {O : Nat → Prop} {b : Nat} {w w' : World} (h0 : Oth b w w') : ∀ (c : Cell) (hs : Names) (u : Value), Rel O w c hs u → Rel O w' c hs u
  | .v x, _, _, h => h
  | .ptr j off, _, _, h => h
  | .pro k g, hs, u, h => by
    obtain ⟨b, off, h1, h2, h3, h4⟩ := h
    refine ⟨b, off, h1, h2, Nat.lt_of_lt_of_le h3 h0.size, fun t ht => ?_⟩
    obtain ⟨x, h5, h6⟩ := h4 t ht
    exact ⟨x, h0.cell h5, Rel.oth h0 (g t) _ _ h6⟩
  | .pix j base len i, _, _, h => h
  | .pxs j base len m i, _, _, h => h
  | .pos j k i t, _, _, h => h
  | .ro n k tight g, hs, u, h => by
    obtain ⟨a, cap, h1, h2, h3, h3', h4⟩ := h
    refine ⟨a, cap, h1, h2, h3, h3', fun hn => ?_⟩
    obtain ⟨b, off, h5, h6, h7, h8⟩ := h4 hn
    refine ⟨b, off, h5, h6, Nat.lt_of_lt_of_le h7 h0.size, fun i hi t ht => ?_⟩
    obtain ⟨x, h9, h10⟩ := h8 i hi t ht
    exact ⟨x, h0.cell h9, Rel.oth h0 (g i t) _ _ h10⟩
  | .osl j, _, _, h => h
  | .psl j off n k, _, _, h => h
  | .mp j, _, _, h => h
  | .fn f caps, _, _, h => h
  | .bfn f caps, _, _, h => h
  | .bq, _, _, h => h
  | .any, _, _, h => h
theorem SvRel.oth {O : Nat → Prop} {b : Nat} {w w' : World} (h0 : Oth b w w') {x : Sv} {hs : Names} {u : Value} (h : SvRel O w x hs u) : SvRel O w' x hs u := by
  cases x with
  | c x => exact Rel.oth h0 x _ _ h
  | agg l =>
    obtain ⟨cs, h1, h2, h3⟩ := h
    exact ⟨cs, h1, h2, fun i c v hc hv => Rel.oth h0 c _ _ (h3 i c v hc hv)⟩
theorem RVRel.oth {O : Nat → Prop} {b : Nat} {w w' : World} (h0 : Oth b w w') {x : RV} {hs : Names} {u : Value} (h : RVRel O w x hs u) : RVRel O w' x hs u := by
  cases x with
  | s x => exact SvRel.oth h0 h
  | un => exact h
  | any => trivial
  | tup l =>
    obtain ⟨cs, h1, h2, h3⟩ := h
    exact ⟨cs, h1, h2, fun i c v hc hv => SvRel.oth h0 (h3 i c v hc hv)⟩
theorem BlkRel.oth {O : Nat → Prop} {b : Nat} {w w' : World} (h0 : Oth b w w') {hs : Names} {x : Blk} {v : Value} (h : BlkRel O w hs x v) : BlkRel O w' hs x v := by
  cases x with
  | row ty cells =>
    obtain ⟨x, cs, h1, h2, h3, h4⟩ := h
    exact ⟨x, cs, h1, h0.same x _ h2 rfl, h3, fun i c u hc hu => Rel.oth h0 c _ _ (h4 i c u hc hu)⟩
  | slc ty k n g =>
    rcases h with h | ⟨x, cap, cs, h1, h2, h2', h3, h4, h5⟩
    · exact .inl h
    · exact .inr ⟨x, cap, cs, h1, h2, h2', h0.same x _ h3 rfl, h4, fun i hi t ht u hu => Rel.oth h0 _ _ _ (h5 i hi t ht u hu)⟩
  | fsl k n g => exact Rel.oth h0 _ _ _ h
  | imap f =>
    obtain ⟨r, es, clk, h1, h2, h3⟩ := h
    exact ⟨r, es, clk, h1, h0.same r _ h2 rfl, h3⟩
  | pmap f =>
    obtain ⟨r, es, clk, h1, h2, h3⟩ := h
    exact ⟨r, es, clk, h1, h0.same r _ h2 rfl, h3⟩
  | gone => trivial
theorem WRep.oth {F : Nat → Prop} {hs : Names} {B : Mem} {b : Nat} {w w' : World} (h0 : Oth b w w') (h : WRep F hs B w) : WRep F hs B w' :=
  ⟨fun j x hj => by obtain ⟨u, hu, hr⟩ := h.blk j x hj; exact ⟨u, hu, BlkRel.oth h0 hr⟩, h.sep, fun x hx => Nat.lt_of_lt_of_le (h.lt x hx) h0.size, h.apart⟩
theorem rep_oth {d : Dfr} {F : Nat → Prop} {O0 : Nat → Prop} {hs0 : Names} {w0 : World} {st : St} {a : Act} {w w' : World} (h : RepS d F O0 hs0 w0 st a w) (h0 : Oth w0.heap.size w w') (hd : DOK d a.defers w') : RepS d F O0 hs0 w0 st a w' := by
  obtain ⟨⟨hs, hw, hR, hf, hS⟩, _⟩ := h
  refine ⟨⟨hs, hw.oth h0, fun t rv ht => ?_, hf, ⟨hS.names, ⟨h0.os.trans hS.fr.os, h0.tape.trans hS.fr.tape, h0.output.trans hS.fr.output, Nat.le_trans hS.fr.size h0.size, fun x hx hn => ?_⟩, hS.own⟩⟩, hd⟩
  · obtain ⟨u, hu, hr⟩ := hR t rv ht
    exact ⟨u, hu, RVRel.oth h0 hr⟩
  · exact (h0.low x hx).trans (hS.fr.block x hx hn)
theorem since_trans {O1 : Nat → Prop} {hs hsW : Names} {w W w' : World} {C : Mem} {hs' : Names} {C' : Mem} (h : Since O1 hs w hsW C W) (k : Since (own hsW C) hsW W hs' C' w') : Since O1 hs w hs' C' w' :=
  ⟨fun j x hx => k.names j x (h.names j x hx), h.fr.trans k.fr h.own, fun x hx => (k.own x hx).elim (h.own x) fun hx => .inr (Nat.le_trans h.fr.size hx)⟩
/-- Told anew since w. -/
theorem rep_base {d : Dfr} {F : Nat → Prop} {O1 : Nat → Prop} {hs hsW : Names} {w W w' : World} {bs : List (Nat × Blk)} {st : St} {a : Act} (h : Since O1 hs w hsW (look bs) W) (k : RepS d F (own hsW (look bs)) hsW W st a w') : RepS d F O1 hs w st a w' := by
  obtain ⟨⟨hs', hw, hR, hf, hS⟩, hd⟩ := k
  exact ⟨⟨hs', hw, hR, hf, since_trans h hS⟩, hd⟩
/-- The blocks σ let go. -/
def delB (σ : List Nat) : List (Nat × Blk) → List (Nat × Blk)
  | [] => []
  | (j, b) :: l => match memN j σ with
    | true => (j, .gone) :: delB σ l
    | false => (j, b) :: delB σ l
def delB0 (σ : List Nat) : List (Nat × Blk) → List (Nat × Blk)
  | [] => []
  | (j, b) :: l => match memN j σ with
    | true => delB0 σ l
    | false => (j, b) :: delB0 σ l
theorem look_delB0 (σ : List Nat) : ∀ (l : List (Nat × Blk)) (j : Nat), look (delB0 σ l) j = if memN j σ then none else look l j
  | [], j => by simp [delB0, look]
  | (i, b) :: l, j => by
    unfold delB0
    cases hm : memN i σ with
    | true =>
      simp only [look_delB0 σ l j, look]
      by_cases e : i = j
      · subst e; simp [hm]
      · simp [e]
    | false =>
      simp only [look, look_delB0 σ l j]
      by_cases e : i = j
      · subst e; simp [hm]
      · simp [e]
theorem look_delB (σ : List Nat) : ∀ (l : List (Nat × Blk)) (j : Nat), look (delB σ l) j = if memN j σ then (look l j).map (fun _ => .gone) else look l j
  | [], j => by simp [delB, look]
  | (i, b) :: l, j => by
    unfold delB
    cases hm : memN i σ with
    | true =>
      simp only [look, look_delB σ l j]
      by_cases e : i = j
      · subst e; simp [hm]
      · simp [e]
    | false =>
      simp only [look, look_delB σ l j]
      by_cases e : i = j
      · subst e; simp [hm]
      · simp [e]
theorem own_delB {σ : List Nat} {hs : Names} {l : List (Nat × Blk)} {x : Nat} (h : own hs (look (delB σ l)) x) : ∃ j b u, memN j σ = false ∧ look l j = some b ∧ hs j = some u ∧ owner b u = some x := by
  obtain ⟨j, b, u, hb, hu, ho⟩ := h
  rw [look_delB] at hb
  cases hm : memN j σ with
  | true =>
    rw [hm, if_pos rfl] at hb
    cases hl : look l j with
    | none => rw [hl] at hb; cases hb
    | some c =>
      rw [hl] at hb
      have hb : Blk.gone = b := by simpa using hb
      subst hb
      simp [owner] at ho
  | false =>
    rw [hm] at hb
    exact ⟨j, b, u, hm, by simpa using hb, hu, ho⟩
theorem own_delB_eq {σ : List Nat} {hs : Names} {l : List (Nat × Blk)} : own hs (look (delB σ l)) = own hs (look (delB0 σ l)) := by
  funext x
  refine propext ⟨fun h => ?_, fun h => ?_⟩
  · obtain ⟨j, b, u, hm, hb, hu, ho⟩ := own_delB h
    exact ⟨j, b, u, by rw [look_delB0, hm]; simpa using hb, hu, ho⟩
  · obtain ⟨j, b, u, hb, hu, ho⟩ := h
    rw [look_delB0] at hb
    split at hb
    · cases hb
    · rename_i hm
      exact ⟨j, b, u, by rw [look_delB, if_neg hm]; exact hb, hu, ho⟩
/-- Behind the rounds: the registers as they were; the blocks that were handed to the iterator are let go. -/
theorem range_back {d d' : Dfr} {F F2 : Nat → Prop} (hF : ∀ x, F x → F2 x) {O0 : Nat → Prop} {hs0 : Names} {w0 : World} {hs : Names} {w W : World} {regs : List RV} {bs : List (Nat × Blk)} {σ : List Nat} {bl : List (Nat × Blk)} {nx : Nat} {a a' : Act} {a2 : Act}
    (hR : Regs (Osum F hs (look bs)) w hs (fun t => regs[t]?) a.tmps) (hS : Since O0 hs0 w0 hs (look bs) w)
    (k : RepS d' F2 (own hs (look (delB σ bs))) hs w ⟨[], bl, nx⟩ a2 W) (ht : a'.tmps = a.tmps) (hd : DOK d a'.defers W) : RepS d F O0 hs0 w0 ⟨regs, bl, nx⟩ a' W := by
  obtain ⟨⟨hs', hw', _, hf', hS'⟩, _⟩ := k
  have hO1 : ∀ x, own hs (look (delB σ bs)) x → own hs (look bs) x := by
    rintro x hx
    obtain ⟨j, b, u, _, hb, hu, ho⟩ := own_delB hx
    exact ⟨j, b, u, hb, hu, ho⟩
  refine ⟨⟨hs', ⟨fun j b hj => ?_, hw'.sep, fun x hx => hw'.lt x (hF x hx), fun x hx => hw'.apart x (hF x hx)⟩, fun t rv h => ?_, hf', ⟨fun j x hx => hS'.names j x (hS.names j x hx), hS.fr.trans hS'.fr fun x hx => hS.own x (hO1 x hx), fun x hx => ?_⟩⟩, hd⟩
  · obtain ⟨u, hu, hr⟩ := hw'.blk j b hj
    exact ⟨u, hu, BlkRel.mono (Nat.le_refl _) (fun _ _ _ => rfl) (fun x hx => .inl (hx.imp (hF x) id)) (fun _ _ h => h) (fun _ _ => rfl) hr⟩
  · obtain ⟨u, hu, hr⟩ := hR t rv h
    rw [← ht] at hu
    refine ⟨u, hu, RVRel.mono hS'.fr.size (fun x hx hn => hS'.fr.block x hx fun h => hn (.inr (hO1 x h))) (fun x hx => ?_) hS'.names hr⟩
    rcases hx with hx | hx
    · exact .inl (.inl hx)
    · exact (hS'.own x hx).imp (fun h => .inr (hO1 x h)) id
  · rcases hS'.own x hx with h | h
    · exact hS.own x (hO1 x h)
    · exact .inr (Nat.le_trans hS.fr.size h)
/-- Ahead of the rounds. -/
theorem range_start {d : Dfr} {F : Nat → Prop} {hs : Names} {w : World} {bs : List (Nat × Blk)} {σ : List Nat} {nx : Nat} {a2 : Act} (hw : WRep F hs (look bs) w) (hf : ∀ j, nx ≤ j → hs j = none) (hd : DOK d a2.defers w) :
    ∃ F2 : Nat → Prop, (∀ x, F x → F2 x) ∧ (∀ x, F2 x → Osum F hs (look bs) x) ∧ RepS d F2 (own hs (look (delB σ bs))) hs w ⟨[], delB σ bs, nx⟩ a2 w := by
  have hsub : Sub (look (delB0 σ bs)) (look bs) := by
    intro j b hj
    rw [look_delB0] at hj
    split at hj
    · cases hj
    · exact hj
  obtain ⟨_, h2⟩ := part_rep hsub hw
  have hO : ∀ F' : Nat → Prop, Osum F' hs (look (delB σ bs)) = Osum F' hs (look (delB0 σ bs)) := fun F' => by
    unfold Osum; rw [own_delB_eq]
  have h3 : WRep (fun x => F x ∨ own hs (fun j => match look (delB0 σ bs) j with | some _ => none | none => look bs j) x) hs (look (delB σ bs)) w := by
    refine ⟨fun j b hj => ?_, fun i j bi bj hi hj x h1 h2' h3 h4 h5 h6 => ?_, h2.lt, fun x hx => by rw [own_delB_eq]; exact h2.apart x hx⟩
    · rw [hO]
      rw [look_delB] at hj
      split at hj
      · cases hl : look bs j with
        | none => rw [hl] at hj; cases hj
        | some c =>
          rw [hl] at hj
          have hj : Blk.gone = b := by simpa using hj
          subst hj
          obtain ⟨u, hu, _⟩ := hw.blk j c hl
          exact ⟨u, hu, trivial⟩
      · rename_i hm
        exact h2.blk j b (by rw [look_delB0, if_neg hm]; exact hj)
    · have key : ∀ i bi hi, look (delB σ bs) i = some bi → owner bi hi = some x → look (delB0 σ bs) i = some bi := by
        intro i bi hi hb ho
        rw [look_delB] at hb
        split at hb
        · cases hl : look bs i with
          | none => rw [hl] at hb; cases hb
          | some c =>
            rw [hl] at hb
            have hb : Blk.gone = bi := by simpa using hb
            subst hb
            simp [owner] at ho
        · rename_i hm
          rw [look_delB0, if_neg hm]; exact hb
      exact h2.sep i j bi bj hi hj x (key i bi hi h1 h5) (key j bj hj h2' h6) h3 h4 h5 h6
  refine ⟨_, fun x hx => .inl hx, fun x hx => ?_, ⟨⟨hs, h3, fun t rv ht => ?_, hf, ⟨fun _ _ h => h, Fr.refl _ _, fun x hx => .inl hx⟩⟩, hd⟩⟩
  · rcases hx with hx | ⟨j, b, u, hb, hu, ho⟩
    · exact .inl hx
    · refine .inr ⟨j, b, u, ?_, hu, ho⟩
      have hb : (match look (delB0 σ bs) j with | some _ => (none : Option Blk) | none => look bs j) = some b := hb
      split at hb
      · cases hb
      · exact hb
  · have ht : ([] : List RV)[t]? = some rv := ht
    simp at ht
theorem own_cm {F : Nat → Prop} {hs : Names} {C : Mem} {w : World} (hC : WRep F hs C w) {x : Nat} (hx : own hs C x) : ∃ o, w.heap[x]? = some o ∧ cm o = true := by
  obtain ⟨j, b, v, hb, hv, hown⟩ := hx
  obtain ⟨v', hv', hr⟩ := hC.blk j b hb
  rw [hv] at hv'; cases hv'
  cases b with
  | row ty cells =>
    obtain ⟨y, cs, h1, h2, _⟩ := hr
    subst h1
    simp [owner] at hown; subst hown
    exact ⟨_, h2, rfl⟩
  | slc ty k n g =>
    rcases hr with ⟨h1, _⟩ | ⟨y, cap, cs, h1, _, _, h3, _⟩
    · subst h1; simp [owner] at hown
    · subst h1; simp [owner] at hown; subst hown
      exact ⟨_, h3, rfl⟩
  | fsl k n g => simp [owner] at hown
  | imap f =>
    obtain ⟨r, es, clk, h1, h2, _⟩ := hr
    subst h1; simp [owner] at hown; subst hown
    exact ⟨_, h2, rfl⟩
  | pmap f =>
    obtain ⟨r, es, clk, h1, h2, _⟩ := hr
    subst h1; simp [owner] at hown; subst hown
    exact ⟨_, h2, rfl⟩
  | gone => simp [owner] at hown
/-- What is neither cells nor entries lies as it lay. -/
theorem rep_keeps {d : Dfr} {F : Nat → Prop} {hs : Names} {C : Mem} {W w : World} (hC : WRep F hs C W) {F' : Nat → Prop} {st : St} {a : Act} (h : RepS d F' (own hs C) hs W st a w) {x : Nat} {o : Obj} (hx : W.heap[x]? = some o) (ho : cm o = false) : w.heap[x]? = some o := by
  obtain ⟨⟨hs', _, _, _, hS⟩, _⟩ := h
  rw [hS.fr.block x (Array.getElem?_eq_some_iff.1 hx).1]
  · exact hx
  · intro hown
    obtain ⟨o', h1, h2⟩ := own_cm hC hown
    rw [hx] at h1; cases h1
    rw [ho] at h2; cases h2
theorem rep_drop {d : Dfr} {d' : Nat} {F : Nat → Prop} {O0 : Nat → Prop} {hs0 : Names} {w0 : World} {st : St} {a : Act} {w : World} (h : RepS d F O0 hs0 w0 st a w) : RepS d' F O0 hs0 w0 ⟨[], st.blks, st.next⟩ { tmps := #[], defers := [] } w := by
  obtain ⟨⟨hs, hw, hR, hf, hS⟩, hd⟩ := h
  refine ⟨⟨hs, hw, fun t rv ht => ?_, hf, hS⟩, DOK.nil _ _⟩
  have ht : ([] : List RV)[t]? = some rv := ht
  simp at ht
end Go.Eng
