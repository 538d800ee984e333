/- A part of the walks, and of the machine that proves them (EngB). -/
import Derived.Test.YtgahcoccodhkmaaDoorEngA
import Derived.RangeFuncRecord
import Derived.Laws.StructEq
import Derived.Lib.AppendStr
import Derived.Laws.BytesArg
import Derived.Laws.IdiomStrings
import Derived.Laws.Strings2
set_option linter.unusedVariables false
set_option linter.unusedSimpArgs false
namespace Go.Eng
open Go
def ArgsRel (O : Nat → Prop) (w : World) (hs : Names) (args : List RV) (vals : Array Value) : Prop :=
  vals.size = args.length ∧ ∀ (i : Nat) a v, args[i]? = some a → vals[i]? = some v → RVRel O w a hs v
/-- A value that is all there. -/
def valSv : Sv → Value
  | .c (.v x) => x
  | .agg l => .agg (l.map fun | .v x => x | _ => undef).toArray
  | _ => undef
def cm : Obj → Bool
  | .cells .. => true
  | .map .. => true
  | _ => false
/-- A call of yield. -/
def YieldsAt (P : Program) (l : Nat) (args : Array Value) (W : World) (R : Ending → World → Prop) : Prop :=
  ∃ fn tmps assign body, (Instr.yield l args).run P W = .ok (.round l fn tmps assign body) W ∧ RoundIn Fence.wide 0 P l fn tmps assign body W R
def Cell.one : Cell → Bool
  | .v x => x.oneCell'
  | _ => false
def Sv.one : Sv → Bool
  | .c x => x.one
  | .agg l => l.all Cell.one
theorem one_rel {O : Nat → Prop} {w : World} {hs : Names} {x : Sv} (h : x.one = true) : RVRel O w (.s x) hs (valSv x) := by
  cases x with
  | c c =>
    cases c <;> first | (cases h; done) | skip
    exact ⟨rfl, h⟩
  | agg l =>
    have h : l.all Cell.one = true := h
    refine ⟨_, rfl, by simp, fun i c v hc hv => ?_⟩
    have hm : c ∈ l := List.mem_of_getElem? hc
    have hp := List.all_eq_true.1 h c hm
    cases c <;> first | (cases hp; done) | skip
    rename_i y
    simp only [List.getElem?_toArray, List.getElem?_map, hc, Option.map_some, Option.some.injEq] at hv
    exact ⟨hv.symm, hp⟩
/-- What a function does that is ranged over: it hands out the items, till all have been or a round says no more; what it looks at must lie as it lay. -/
def IterRun (P : Program) (f : FuncId) (vals : Array Value) (n : Nat) (item : Nat → Array Value) (X : Nat → Prop) (w : World) : Prop :=
  ∀ (l : Nat) (J : Nat → World → Prop) (Jx : World → Prop),
    (∀ k W, J k W → w.heap.size ≤ W.heap.size ∧ ∀ (x : Nat) (o : Obj), w.heap[x]? = some o → cm o = true → X x → W.heap[x]? = some o) →
    (∀ k, k < n → ∀ W, J k W → YieldsAt P l (item k) W fun e W' => (e = .returned (.bool true) ∧ J (k + 1) W') ∨ (e = .returned (.bool false) ∧ Jx W')) →
    J 0 w → CallsIn Fence.wide 0 P f (#[.func (.yield l) #[] #[]] ++ vals) w fun e w' => (∃ v, e = .returned v) ∧ (J n w' ∨ Jx w')
/-- How a call ends: by a panic, or by a return. -/
def EndsAs (p : Option (List PanicEntry)) (e : Ending) (v : Value) : Prop :=
  match p with
  | none => e = .returned v
  | some ch => e = .panicked ch
structure Meets (P : Program) (f : FuncId) (S : FSpec) : Prop where
  pn : ∀ γ j b, look (S.blks γ) j = some b → j < (S.blks γ).length
  qn : ∀ γ j b, look (S.post γ) j = some b → j < (S.post γ).length
  full : ∀ γ j, j < (S.blks γ).length → ∃ b, look (S.blks γ) j = some b
  kp : ∀ γ j b, look (S.blks γ) j = some b → ∃ b', look (S.post γ) j = some b'
  body : ∃ fn, P.funcs[f]? = some fn ∧ fn.body.isSome = true ∧ (fn.name == "runtime.NumGoroutine") = false
  iter : ∀ γ n item, S.yields γ = some (n, item) → S.pre γ → ∀ (F : Nat → Prop) (hs : Names) (w : World) (vals : Array Value), (∀ j, (S.blks γ).length ≤ j → hs j = none) →
    ArgsRel (Osum F hs (look (S.blks γ))) w hs (S.args γ) vals → WRep F hs (look (S.blks γ)) w → IterRun P f vals n (fun k => ((item k).map valSv).toArray) (fun x => ¬ F x) w
  run : ∀ γ, S.yields γ = none → S.pre γ → ∀ (F : Nat → Prop) (hs : Names) (w : World) (vals : Array Value), (∀ j, (S.blks γ).length ≤ j → hs j = none) →
    ArgsRel (Osum F hs (look (S.blks γ))) w hs (S.args γ) vals → WRep F hs (look (S.blks γ)) w →
    Calls P f vals w fun e w' => ∃ v, EndsAs (S.panics γ) e v ∧ Post F hs (look (S.blks γ)) w (S.res γ) (look (S.post γ)) (S.blks γ).length (max (S.blks γ).length (S.post γ).length) v w'
section
variable {P : Program} {o : Oper} {regs : List RV} {bs : List (Nat × Blk)} {nx : Nat} {rv : RV} {rd : List (Nat × Blk)}
theorem lookK_iff {j : Nat} {k : Blk → Prop} (h : lookK bs j k) : ∃ b, look bs j = some b ∧ k b := lookK_spec bs j k h
theorem capsEq_rel {hs hc : Names} {σ : List Nat} (hσ : ∀ i j h, σ[i]? = some j → hs j = some h → hc i = some h) : ∀ (l l' : List Cap), capsEq σ l l' →
    l'.length = l.length ∧ ∀ (i : Nat) c x, l[i]? = some c → (∀ c', l'[i]? = some c' → CapRel hs c' x) → CapRel hc c x
  | [], [], _ => ⟨rfl, fun i c x h => by simp at h⟩
  | .ptr p q :: l, .ptr p' q' :: l', h => by
    obtain ⟨⟨h1, rfl⟩, h2⟩ := h
    obtain ⟨h3, h4⟩ := capsEq_rel hσ l l' h2
    refine ⟨by simp [h3], fun i c x hc' hx => ?_⟩
    cases i with
    | zero =>
      simp at hc'; subst hc'
      obtain ⟨b, h5, h6⟩ := hx _ rfl
      exact ⟨b, hσ _ _ _ h1 h5, h6⟩
    | succ i => exact h4 i c x (by simpa using hc') (fun c' h => hx c' (by simpa using h))
  | .v p :: l, .v p' :: l', h => by
    obtain ⟨rfl, h2⟩ := h
    obtain ⟨h3, h4⟩ := capsEq_rel hσ l l' h2
    refine ⟨by simp [h3], fun i c x hc' hx => ?_⟩
    cases i with
    | zero => simp at hc'; subst hc'; exact hx _ rfl
    | succ i => exact h4 i c x (by simpa using hc') (fun c' h => hx c' (by simpa using h))
  | [], _ :: _, h => h.elim
  | .ptr _ _ :: _, [], h => h.elim
  | .v _ :: _, [], h => h.elim
  | .ptr _ _ :: _, .v _ :: _, h => h.elim
  | .v _ :: _, .ptr _ _ :: _, h => h.elim
theorem cellEq0_rel {O O' : Nat → Prop} {w : World} {hs hs' : Names} (hO : ∀ x, O' x → O x) {c c' : Cell} (he : cellEq0 c c') {u : Value} (hu : Rel O w c' hs u) : Rel O' w c hs' u := by
  have hmono : ∀ (c : Cell) (u : Value), Rel O w c noNames u → Rel O' w c noNames u := fun c u h =>
    Rel.mono (Nat.le_refl _) (fun _ _ _ => rfl) (fun x h => .inl (hO x h)) _ _ _ _ (fun _ _ h => h) h
  unfold cellEq0 at he
  split at he
  · exact rel_one hu
  · exact rel_one hu
  · exact rel_one hu
  · obtain ⟨rfl, rfl⟩ := he; exact hu
  · subst he; exact hu
  · subst he; exact hu
  · obtain ⟨rfl, rfl, ht, hg⟩ := he
    obtain ⟨a, cap, h1, h2, h3, h4, h5⟩ := hu
    refine ⟨a, cap, h1, h2, fun h => h3 (ht h), h4, fun hn => ?_⟩
    obtain ⟨b, off, h6, h7, h8, h9⟩ := h5 hn
    refine ⟨b, off, h6, fun h => h7 (hO b h), h8, fun i hi t ht => ?_⟩
    obtain ⟨x, h10, h11⟩ := h9 i hi t ht
    exact ⟨x, h10, by rw [hg i hi t ht]; exact hmono _ _ h11⟩
  · obtain ⟨rfl, hg⟩ := he
    obtain ⟨b, off, h1, h2, h3, h4⟩ := hu
    refine ⟨b, off, h1, fun h => h2 (hO b h), h3, fun t ht => ?_⟩
    obtain ⟨x, h5, h6⟩ := h4 t ht
    exact ⟨x, h5, by rw [hg t ht]; exact hmono _ _ h6⟩
  · exact he.elim
theorem proEqK_spec {g : Nat → Cell} : ∀ (l : List Cell) (t0 : Nat), proEqK g t0 l → ∀ (t : Nat) (c : Cell), l[t]? = some c → cellEq0 (g (t0 + t)) c
  | [], _, _, t, c, h => by simp at h
  | d :: l, t0, h, t, c, hc => by
    obtain ⟨h1, h2⟩ := h
    cases t with
    | zero => simp at hc; subst hc; exact h1
    | succ t =>
      have := proEqK_spec l (t0 + 1) h2 t c (by simpa using hc)
      rwa [show t0 + 1 + t = t0 + (t + 1) by omega] at this
/-- From the cell that is there to the cell that is told. -/
theorem cellEq_rel {F : Nat → Prop} {hs hc : Names} {B : Mem} {O' : Nat → Prop} {w : World} {σ : List Nat} (hw : WRep F hs B w) (hO : ∀ x, O' x → Osum F hs B x)
    (hσ : ∀ i j h, σ[i]? = some j → hs j = some h → hc i = some h) (c c' : Cell)
    (hl : ∀ j ∈ lentC c c', ∃ b, look bs j = some b ∧ B j = some b ∧ ∀ x h, hs j = some h → owner b h = some x → ¬ O' x)
    (he : cellEq bs σ c c') {u : Value} (hu : Rel (Osum F hs B) w c' hs u) : Rel O' w c hc u := by
  have hmono : ∀ (c : Cell) (u : Value), Rel (Osum F hs B) w c noNames u → Rel O' w c noNames u := fun c u h =>
    Rel.mono (Nat.le_refl _) (fun _ _ _ => rfl) (fun x h => .inl (hO x h)) _ _ _ _ (fun _ _ h => h) h
  unfold cellEq at he
  split at he
  · exact rel_one hu
  · obtain ⟨rfl, rfl⟩ := he; exact hu
  · subst he; exact hu
  · subst he; exact hu
  · rename_i n k t g n' k' t' g'
    obtain ⟨rfl, rfl, ht, hg⟩ := he
    obtain ⟨a, cap, h1, h2, h3, h4, h5⟩ := hu
    refine ⟨a, cap, h1, h2, fun h => h3 (ht h), h4, fun hn => ?_⟩
    obtain ⟨b, off, h6, h7, h8, h9⟩ := h5 hn
    refine ⟨b, off, h6, fun h => h7 (hO b h), h8, fun i hi t ht => ?_⟩
    obtain ⟨x, h10, h11⟩ := h9 i hi t ht
    exact ⟨x, h10, by rw [hg i hi t ht]; exact hmono _ _ h11⟩
  · rename_i n k t g j
    obtain ⟨rfl, he⟩ := he
    obtain ⟨b, hb, he⟩ := lookK_spec _ _ _ he
    obtain ⟨b', hb', hB, hno⟩ := hl j (by simp [lentC])
    rw [hb] at hb'; cases hb'
    obtain ⟨h, hh, hr⟩ := hw.blk j b hB
    rw [hu.1] at hh; cases hh
    split at he
    · rename_i ty k' n' g'
      obtain ⟨rfl, rfl, hg⟩ := he
      rcases hr with ⟨rfl, rfl⟩ | ⟨x0, cap, cs, rfl, h2, _, h3, h4, h5⟩
      · exact ⟨none, 0, rfl, Nat.le_refl _, (fun h => by cases h), fun _ => rfl, fun h => absurd h (by omega)⟩
      · refine ⟨_, cap, rfl, h2, (fun h => by cases h), (fun h => by cases h), fun hn => ⟨x0, 0, rfl, hno x0 _ hu.1 rfl, (Array.getElem?_eq_some_iff.1 h3).1, fun i hi t ht => ?_⟩⟩
        have hlt : i * k + t < cs.size := by
          rw [h4]
          calc i * k + t < i * k + k := by omega
            _ = (i + 1) * k := by rw [Nat.add_mul, Nat.one_mul]
            _ ≤ cap * k := Nat.mul_le_mul_right _ (by omega)
        exact ⟨cs[i * k + t], by simp [World.cell?, h3, Array.getElem?_eq_getElem hlt], by rw [hg i hi t ht]; exact hmono _ _ (h5 i hi t ht _ (Array.getElem?_eq_getElem hlt))⟩
    · rename_i k' n' g'
      obtain ⟨rfl, rfl, hg⟩ := he
      obtain ⟨a, cap, h1, h2, h3, h4, h5⟩ := hr
      refine ⟨a, cap, h1, h2, (fun h => by cases h), h4, fun hn => ?_⟩
      obtain ⟨b, off, h6, h7, h8, h9⟩ := h5 hn
      refine ⟨b, off, h6, fun h => h7 (hO b h), h8, fun i hi t ht => ?_⟩
      obtain ⟨x, h10, h11⟩ := h9 i hi t ht
      exact ⟨x, h10, by rw [hg i hi t ht]; exact hmono _ _ h11⟩
    · exact he.elim
  · obtain ⟨hu1, _⟩ := hu
    subst he
    exact ⟨none, 0, hu1, Nat.le_refl _, fun _ => rfl, fun _ => rfl, fun h => absurd h (by omega)⟩
  · obtain ⟨rfl, hg⟩ := he
    obtain ⟨b, off, h1, h2, h3, h4⟩ := hu
    refine ⟨b, off, h1, fun h => h2 (hO b h), h3, fun t ht => ?_⟩
    obtain ⟨x, h5, h6⟩ := h4 t ht
    exact ⟨x, h5, by rw [hg t ht]; exact hmono _ _ h6⟩
  · rename_i k g j o
    obtain ⟨b, hb, he⟩ := lookK_spec _ _ _ he
    obtain ⟨b', hb', hB, hno⟩ := hl j (by simp [lentC])
    rw [hb] at hb'; cases hb'
    obtain ⟨h, hh, hr⟩ := hw.blk j b hB
    split at he
    · rename_i ty l
      obtain ⟨r, he, h1, h2, h3⟩ := subK_spec _ _ _ _ he
      obtain ⟨bb, hbb, rfl⟩ := hu
      obtain ⟨x, cs, rfl, h4, h5, h6⟩ := hr
      rw [hh] at hbb; cases hbb
      refine ⟨bb, o, rfl, hno bb _ hh rfl, (Array.getElem?_eq_some_iff.1 h4).1, fun t ht => ?_⟩
      have hlt : o + t < cs.size := by omega
      have hlt' : o + t < l.length := by omega
      have hc : l[o + t]? = some l[o + t] := List.getElem?_eq_getElem hlt'
      have hv : cs[o + t]? = some cs[o + t] := Array.getElem?_eq_getElem hlt
      refine ⟨cs[o + t], by simp [World.cell?, h4, hv], ?_⟩
      have := proEqK_spec r 0 he t l[o + t] (by rw [h3 t ht]; exact hc)
      rw [Nat.zero_add] at this
      exact cellEq0_rel hO this (h6 _ _ _ hc hv)
    · exact he.elim
  · obtain ⟨h1, rfl⟩ := he
    obtain ⟨b, h2, h3⟩ := hu
    exact ⟨b, hσ _ _ _ h1 h2, h3⟩
  · exact ⟨hσ _ _ _ he hu.1, hu.2⟩
  · exact ⟨hσ _ _ _ he hu.1, hu.2⟩
  · rename_i f l f' l'
    obtain ⟨rfl, he⟩ := he
    obtain ⟨arr, h1, h2, h3⟩ := hu
    obtain ⟨h4, h5⟩ := capsEq_rel hσ l l' he
    exact ⟨arr, h1, by rw [h2, h4], fun i c x hc' hx => h5 i c x hc' (fun c' hc'' => h3 i c' x hc'' hx)⟩
  · obtain ⟨h1, rfl, rfl, rfl⟩ := he
    obtain ⟨b, cap, h2, h3, h4⟩ := hu
    exact ⟨b, cap, hσ _ _ _ h1 h2, h3, h4⟩
  · rename_i f l f' l'
    obtain ⟨rfl, he⟩ := he
    obtain ⟨arr, h1, h2, h3⟩ := hu
    obtain ⟨h4, h5⟩ := capsEq_rel hσ l l' he
    exact ⟨arr, h1, by rw [h2, h4], fun i c x hc' hx => h5 i c x hc' (fun c' hc'' => h3 i c' x hc'' hx)⟩
  · obtain ⟨h1, rfl, rfl, rfl⟩ := he
    obtain ⟨b, m, cap, h2, h3, h4⟩ := hu
    exact ⟨b, m, cap, hσ _ _ _ h1 h2, h3, h4⟩
  · exact he.elim
section
variable {F : Nat → Prop} {hs hc : Names} {B : Mem} {O' : Nat → Prop} {w : World} {σ : List Nat}
/-- A name that may be lent. -/
def Lent (bs : List (Nat × Blk)) (hs : Names) (B : Mem) (O' : Nat → Prop) (j : Nat) : Prop :=
  ∃ b, look bs j = some b ∧ B j = some b ∧ ∀ x h, hs j = some h → owner b h = some x → ¬ O' x
theorem cellsEq_rel (hw : WRep F hs B w) (hO : ∀ x, O' x → Osum F hs B x) (hσ : ∀ i j h, σ[i]? = some j → hs j = some h → hc i = some h) :
    ∀ (l l' : List Cell), (∀ j ∈ lentCs l l', Lent bs hs B O' j) → cellsEq bs σ l l' →
      l'.length = l.length ∧ ∀ (i : Nat) c u, l[i]? = some c → (∀ c', l'[i]? = some c' → Rel (Osum F hs B) w c' hs u) → Rel O' w c hc u
  | [], [], _, _ => ⟨rfl, fun i c u h => by simp at h⟩
  | c :: l, c' :: l', hl, h => by
    obtain ⟨h1, h2⟩ := h
    obtain ⟨h3, h4⟩ := cellsEq_rel hw hO hσ l l' (fun j hj => hl j (List.mem_append.2 (.inr hj))) h2
    refine ⟨by simp [h3], fun i d u hd hu => ?_⟩
    cases i with
    | zero =>
      simp at hd; subst hd
      exact cellEq_rel hw hO hσ c c' (fun j hj => hl j (List.mem_append.2 (.inl hj))) h1 (hu c' rfl)
    | succ i => exact h4 i d u (by simpa using hd) (fun e he => hu e (by simpa using he))
  | [], _ :: _, _, h => h.elim
  | _ :: _, [], _, h => h.elim
theorem svEq_rel (hw : WRep F hs B w) (hO : ∀ x, O' x → Osum F hs B x) (hσ : ∀ i j h, σ[i]? = some j → hs j = some h → hc i = some h)
    (x y : Sv) (hl : ∀ j ∈ lentS x y, Lent bs hs B O' j) (h : svEq bs σ x y) {u : Value} (hu : SvRel (Osum F hs B) w y hs u) : SvRel O' w x hc u := by
  unfold svEq at h
  split at h
  · exact cellEq_rel hw hO hσ _ _ hl h hu
  · obtain ⟨h1, h2⟩ := cellsEq_rel hw hO hσ _ _ hl h
    obtain ⟨cs, h3, h4, h5⟩ := hu
    exact ⟨cs, h3, by rw [h4, h1], fun i c v hc hv => h2 i c v hc fun c' hc' => h5 i c' v hc' hv⟩
  · exact h.elim
theorem svsEq_rel (hw : WRep F hs B w) (hO : ∀ x, O' x → Osum F hs B x) (hσ : ∀ i j h, σ[i]? = some j → hs j = some h → hc i = some h) :
    ∀ (l l' : List Sv), (∀ j ∈ lentT l l', Lent bs hs B O' j) → svsEq bs σ l l' →
      l'.length = l.length ∧ ∀ (i : Nat) c u, l[i]? = some c → (∀ c', l'[i]? = some c' → SvRel (Osum F hs B) w c' hs u) → SvRel O' w c hc u
  | [], [], _, _ => ⟨rfl, fun i c u h => by simp at h⟩
  | c :: l, c' :: l', hl, h => by
    obtain ⟨h1, h2⟩ := h
    obtain ⟨h3, h4⟩ := svsEq_rel hw hO hσ l l' (fun j hj => hl j (List.mem_append.2 (.inr hj))) h2
    refine ⟨by simp [h3], fun i d u hd hu => ?_⟩
    cases i with
    | zero =>
      simp at hd; subst hd
      exact svEq_rel hw hO hσ c c' (fun j hj => hl j (List.mem_append.2 (.inl hj))) h1 (hu c' rfl)
    | succ i => exact h4 i d u (by simpa using hd) (fun e he => hu e (by simpa using he))
  | [], _ :: _, _, h => h.elim
  | _ :: _, [], _, h => h.elim
theorem rvEq_rel (hw : WRep F hs B w) (hO : ∀ x, O' x → Osum F hs B x) (hσ : ∀ i j h, σ[i]? = some j → hs j = some h → hc i = some h)
    (x y : RV) (hl : ∀ j ∈ lentR x y, Lent bs hs B O' j) (h : rvEq bs σ x y) {u : Value} (hu : RVRel (Osum F hs B) w y hs u) : RVRel O' w x hc u := by
  unfold rvEq at h
  split at h
  · trivial
  · exact svEq_rel hw hO hσ _ _ hl h hu
  · obtain ⟨h1, h2⟩ := svsEq_rel hw hO hσ _ _ hl h
    obtain ⟨cs, h3, h4, h5⟩ := hu
    exact ⟨cs, h3, by rw [h4, h1], fun i c v hc hv => h2 i c v hc fun c' hc' => h5 i c' v hc' hv⟩
  · exact hu
  · exact h.elim
theorem rvsEq_rel (hw : WRep F hs B w) (hO : ∀ x, O' x → Osum F hs B x) (hσ : ∀ i j h, σ[i]? = some j → hs j = some h → hc i = some h) :
    ∀ (l l' : List RV), (∀ j ∈ lentRs l l', Lent bs hs B O' j) → rvsEq bs σ l l' →
      l'.length = l.length ∧ ∀ (i : Nat) c u, l[i]? = some c → (∀ c', l'[i]? = some c' → RVRel (Osum F hs B) w c' hs u) → RVRel O' w c hc u
  | [], [], _, _ => ⟨rfl, fun i c u h => by simp at h⟩
  | c :: l, c' :: l', hl, h => by
    obtain ⟨h1, h2⟩ := h
    obtain ⟨h3, h4⟩ := rvsEq_rel hw hO hσ l l' (fun j hj => hl j (List.mem_append.2 (.inr hj))) h2
    refine ⟨by simp [h3], fun i d u hd hu => ?_⟩
    cases i with
    | zero =>
      simp at hd; subst hd
      exact rvEq_rel hw hO hσ c c' (fun j hj => hl j (List.mem_append.2 (.inl hj))) h1 (hu c' rfl)
    | succ i => exact h4 i d u (by simpa using hd) (fun e he => hu e (by simpa using he))
  | [], _ :: _, _, h => h.elim
  | _ :: _, [], _, h => h.elim
theorem owner_row (ty ty' : TypeId) (l l' : List Cell) (h : Value) : owner (.row ty l) h = owner (.row ty' l') h := by
  cases h with
  | pointer a => cases a <;> rfl
  | _ => rfl
theorem owner_imap (f f' : Int → Option Int) (h : Value) : owner (.imap f) h = owner (.imap f') h := by
  cases h <;> rfl
theorem owner_pmap (f f' : Int → Int → Option Int) (h : Value) : owner (.pmap f) h = owner (.pmap f') h := by
  cases h <;> rfl
theorem owner_smap (f f' : ByteArray → Option Int) (h : Value) : owner (.smap f) h = owner (.smap f') h := by
  cases h <;> rfl
theorem lentCs_nil : ∀ (l l' : List Cell), cellsEq [] σ l l' → ∀ j ∈ lentCs l l', False
  | [], [], _, j, hj => by simp [lentCs] at hj
  | c :: l, c' :: l', h, j, hj => by
    obtain ⟨h1, h2⟩ := h
    rcases List.mem_append.1 hj with hj | hj
    · unfold lentC at hj
      split at hj
      · unfold cellEq at h1
        exact h1.2.elim
      · unfold cellEq at h1
        exact h1.elim
      · simp at hj
    · exact lentCs_nil l l' h2 j hj
  | [], _ :: _, h, _, _ => h.elim
  | _ :: _, [], h, _, _ => h.elim
theorem blkEq_rel (hw : WRep F hs B w) (hO : ∀ x, O' x → Osum F hs B x) (hσ : ∀ i j h, σ[i]? = some j → hs j = some h → hc i = some h)
    (x y : Blk) (h : blkEq σ x y) {u : Value} (hu : BlkRel (Osum F hs B) w hs y u) : BlkRel O' w hc x u ∧ (∀ z, owner x u = some z → owner y u = some z) := by
  have hmono : ∀ (c : Cell) (u : Value), Rel (Osum F hs B) w c noNames u → Rel O' w c noNames u := fun c u h =>
    Rel.mono (Nat.le_refl _) (fun _ _ _ => rfl) (fun x h => .inl (hO x h)) _ _ _ _ (fun _ _ h => h) h
  unfold blkEq at h
  split at h
  · rename_i ty l ty' l'
    obtain ⟨rfl, h⟩ := h
    obtain ⟨h1, h2⟩ := cellsEq_rel (bs := []) hw hO hσ l l' (fun j hj => (lentCs_nil l l' h j hj).elim) h
    obtain ⟨x, cs, h3, h4, h5, h6⟩ := hu
    exact ⟨⟨x, cs, h3, h4, by rw [h5, h1], fun i c v hc hv => h2 i c v hc fun c' hc' => h6 i c' v hc' hv⟩, fun z hz => by rw [owner_row ty ty l' l]; exact hz⟩
  · rename_i ty k n g ty' k' n' g'
    obtain ⟨rfl, rfl, rfl, hg⟩ := h
    refine ⟨?_, fun z hz => by rw [owner_slc ty ty k k n n g' g]; exact hz⟩
    rcases hu with hu | ⟨x, cap, cs, h3, h4, h5, h6, h7, h8⟩
    · exact .inl hu
    · exact .inr ⟨x, cap, cs, h3, h4, h5, h6, h7, fun i hi t ht v hv => by rw [hg i hi t ht]; exact hmono _ _ (h8 i hi t ht v hv)⟩
  · rename_i k n g k' n' g'
    obtain ⟨rfl, rfl, hg⟩ := h
    refine ⟨?_, fun z hz => hz⟩
    obtain ⟨a, cap, h1, h2, h3, h4, h5⟩ := hu
    refine ⟨a, cap, h1, h2, h3, h4, fun hn => ?_⟩
    obtain ⟨b, off, h6, h7, h8, h9⟩ := h5 hn
    refine ⟨b, off, h6, fun h => h7 (hO b h), h8, fun i hi t ht => ?_⟩
    obtain ⟨x, h10, h11⟩ := h9 i hi t ht
    exact ⟨x, h10, by rw [hg i hi t ht]; exact hmono _ _ h11⟩
  · rename_i f f'
    obtain ⟨r, es, clk, h1, h2, h3, h4⟩ := hu
    exact ⟨⟨r, es, clk, h1, h2, h3, fun a => by rw [h a]; exact h4 a⟩, fun z hz => by rw [owner_imap f' f]; exact hz⟩
  · rename_i f f'
    obtain ⟨r, es, clk, h1, h2, h3, h4⟩ := hu
    exact ⟨⟨r, es, clk, h1, h2, h3, fun a b => by rw [h a b]; exact h4 a b⟩, fun z hz => by rw [owner_pmap f' f]; exact hz⟩
  · rename_i f f'
    obtain ⟨r, es, clk, h1, h2, h3, h4⟩ := hu
    exact ⟨⟨r, es, clk, h1, h2, h3, fun a => by rw [h a]; exact h4 a⟩, fun z hz => by rw [owner_smap f' f]; exact hz⟩
  · exact ⟨trivial, fun z hz => by simp [owner] at hz⟩
  · exact h.elim
end
end
end Go.Eng
namespace Go.Eng
open Go
section
variable {O : Nat → Prop} {w : World} {hc hs : Names} {σ : List Nat} {nx : Nat}
theorem cellRen_spec (hn : ∀ j h, hc j = some h → hs (ren σ nx j) = some h) (c : Cell) (k : Cell → Prop) (h : cellRen σ nx c k) :
    ∃ c', k c' ∧ c'.plain = c.plain := by
  unfold cellRen at h
  have h := cellK_spec _ _ h
  cases c <;> simp only [nmK] at h <;> first
    | exact ⟨_, h, rfl⟩
    | exact ⟨_, litK_spec _ _ _ _ h, rfl⟩
/-- The turned cell. -/
def cellR (σ : List Nat) (nx : Nat) : Cell → Cell
  | .ptr j o => .ptr (ren σ nx j) o
  | .pix a b c d => .pix (ren σ nx a) b c d
  | .pxs a b c d e => .pxs (ren σ nx a) b c d e
  | .pos a b c d => .pos (ren σ nx a) b c d
  | .osl j => .osl (ren σ nx j)
  | .psl a b c d => .psl (ren σ nx a) b c d
  | .osv a b c d => .osv (ren σ nx a) b c d
  | .mp j => .mp (ren σ nx j)
  | .fn f l => .fn f (l.map (capRen σ nx))
  | .bfn f l => .bfn f (l.map (capRen σ nx))
  | c => c
theorem cellRen_is (c : Cell) (k : Cell → Prop) (h : cellRen σ nx c k) : k (cellR σ nx c) := by
  unfold cellRen at h
  have h := cellK_spec _ _ h
  cases c <;> simp only [nmK] at h <;> first
    | exact h
    | exact litK_spec _ _ _ _ h
theorem cellR_rel (hn : ∀ j h, hc j = some h → hs (ren σ nx j) = some h) (c : Cell) {u : Value} (h : Rel O w c hc u) : Rel O w (cellR σ nx c) hs u := by
  cases c with
  | v x => exact h
  | any => exact h
  | bq => exact h
  | ro n k t g => exact h
  | pro k g => exact h
  | ptr j o => obtain ⟨b, h1, h2⟩ := h; exact ⟨b, hn _ _ h1, h2⟩
  | pix a b c d => obtain ⟨x, h1, h2⟩ := h; exact ⟨x, hn _ _ h1, h2⟩
  | pxs a b c d e => obtain ⟨x, h1, h2⟩ := h; exact ⟨x, hn _ _ h1, h2⟩
  | pos a b c d => obtain ⟨x, n, cap, h1, h2⟩ := h; exact ⟨x, n, cap, hn _ _ h1, h2⟩
  | psl a b c d => obtain ⟨x, cap, h1, h2⟩ := h; exact ⟨x, cap, hn _ _ h1, h2⟩
  | osv a b c d => obtain ⟨x, m, cap, h1, h2⟩ := h; exact ⟨x, m, cap, hn _ _ h1, h2⟩
  | osl j => exact ⟨hn _ _ h.1, h.2⟩
  | mp j => exact ⟨hn _ _ h.1, h.2⟩
  | fn f l =>
    obtain ⟨arr, h1, h2, h3⟩ := h
    refine ⟨arr, h1, by simp [h2], fun i c x hc' hx => ?_⟩
    simp only [List.getElem?_map, Option.map_eq_some_iff] at hc'
    obtain ⟨c0, h4, rfl⟩ := hc'
    have h5 := h3 i c0 x h4 hx
    cases c0 with
    | v y => exact h5
    | ptr j off => obtain ⟨b, h6, h7⟩ := h5; exact ⟨b, hn _ _ h6, h7⟩
  | bfn f l =>
    obtain ⟨arr, h1, h2, h3⟩ := h
    refine ⟨arr, h1, by simp [h2], fun i c x hc' hx => ?_⟩
    simp only [List.getElem?_map, Option.map_eq_some_iff] at hc'
    obtain ⟨c0, h4, rfl⟩ := hc'
    have h5 := h3 i c0 x h4 hx
    cases c0 with
    | v y => exact h5
    | ptr j off => obtain ⟨b, h6, h7⟩ := h5; exact ⟨b, hn _ _ h6, h7⟩
theorem cellsRen_is : ∀ (l : List Cell) (k : List Cell → Prop), cellsRen σ nx l k → k (l.map (cellR σ nx))
  | [], _, h => h
  | c :: l, k, h => cellsRen_is l _ (cellRen_is c _ h)
def svR (σ : List Nat) (nx : Nat) : Sv → Sv
  | .c x => .c (cellR σ nx x)
  | .agg l => .agg (l.map (cellR σ nx))
theorem svRen_is (x : Sv) (k : Sv → Prop) (h : svRen σ nx x k) : k (svR σ nx x) := by
  cases x with
  | c x => exact cellRen_is x (fun c => k (.c c)) h
  | agg l => exact cellsRen_is l (fun l => k (.agg l)) h
theorem svR_rel (hn : ∀ j h, hc j = some h → hs (ren σ nx j) = some h) (x : Sv) {u : Value} (h : SvRel O w x hc u) : SvRel O w (svR σ nx x) hs u := by
  cases x with
  | c x => exact cellR_rel hn x h
  | agg l =>
    obtain ⟨cs, h1, h2, h3⟩ := h
    refine ⟨cs, h1, by simp [h2], fun i c v hc' hv => ?_⟩
    simp only [List.getElem?_map, Option.map_eq_some_iff] at hc'
    obtain ⟨c0, h4, rfl⟩ := hc'
    exact cellR_rel hn c0 (h3 i c0 v h4 hv)
theorem svsRen_is : ∀ (l : List Sv) (k : List Sv → Prop), svsRen σ nx l k → k (l.map (svR σ nx))
  | [], _, h => h
  | c :: l, k, h => svsRen_is l _ (svRen_is c _ h)
def rvR (σ : List Nat) (nx : Nat) : RV → RV
  | .s x => .s (svR σ nx x)
  | .tup l => .tup (l.map (svR σ nx))
  | .un => .un
  | .any => .any
theorem rvRen_is (x : RV) (k : RV → Prop) (h : rvRen σ nx x k) : k (rvR σ nx x) := by
  cases x with
  | s x => exact svRen_is x (fun c => k (.s c)) h
  | tup l => exact svsRen_is l (fun l => k (.tup l)) h
  | un => exact h
  | any => exact h
theorem rvR_rel (hn : ∀ j h, hc j = some h → hs (ren σ nx j) = some h) (x : RV) {u : Value} (h : RVRel O w x hc u) : RVRel O w (rvR σ nx x) hs u := by
  cases x with
  | s x => exact svR_rel hn x h
  | un => exact h
  | any => trivial
  | tup l =>
    obtain ⟨cs, h1, h2, h3⟩ := h
    refine ⟨cs, h1, by simp [h2], fun i c v hc' hv => ?_⟩
    simp only [List.getElem?_map, Option.map_eq_some_iff] at hc'
    obtain ⟨c0, h4, rfl⟩ := hc'
    exact svR_rel hn c0 (h3 i c0 v h4 hv)
def blkR (σ : List Nat) (nx : Nat) : Blk → Blk
  | .row ty l => .row ty (l.map (cellR σ nx))
  | b => b
theorem blkRen_is (x : Blk) (k : Blk → Prop) (h : blkRen σ nx x k) : k (blkR σ nx x) := by
  cases x with
  | row ty l => exact cellsRen_is l (fun l => k (.row ty l)) h
  | _ => exact h
theorem blkR_rel (hn : ∀ j h, hc j = some h → hs (ren σ nx j) = some h) (x : Blk) {u : Value} (h : BlkRel O w hc x u) : BlkRel O w hs (blkR σ nx x) u := by
  cases x with
  | row ty l =>
    obtain ⟨x, cs, h1, h2, h3, h4⟩ := h
    refine ⟨x, cs, h1, h2, by simp [h3], fun i c v hc' hv => ?_⟩
    simp only [List.getElem?_map, Option.map_eq_some_iff] at hc'
    obtain ⟨c0, h5, rfl⟩ := hc'
    exact cellR_rel hn c0 (h4 i c0 v h5 hv)
  | _ => exact h
theorem owner_blkR (x : Blk) (u : Value) : owner (blkR σ nx x) u = owner x u := by
  cases x with
  | row ty l => exact owner_row ty ty _ l u
  | _ => rfl
theorem blksRen_is : ∀ (l : List (Nat × Blk)) (k : List (Nat × Blk) → Prop), blksRen σ nx l k → k (l.map fun p => (ren σ nx p.1, blkR σ nx p.2))
  | [], _, h => h
  | (j, b) :: l, k, h => by
    unfold blksRen at h
    have h1 := litK_spec _ _ _ _ h
    exact blksRen_is l _ (blkRen_is b _ h1)
end
def froz : Blk → Blk
  | .slc _ q n g => .fsl q n g
  | .row _ _ => .gone
  | b => b
theorem freezeK_spec {bs : List (Nat × Blk)} : ∀ (l : List Nat) (k : List (Nat × Blk) → List (Nat × Blk) → Prop), freezeK bs l k →
    ∃ lent : List (Nat × Blk), k lent (lent.map fun p => (p.1, froz p.2)) ∧ lent.map (·.1) = l ∧ ∀ p ∈ lent, look bs p.1 = some p.2 ∧ ((∃ ty q n g, p.2 = .slc ty q n g) ∨ (∃ q n g, p.2 = .fsl q n g) ∨ ∃ ty l, p.2 = .row ty l)
  | [], k, h => ⟨[], h, rfl, by simp⟩
  | j :: l, k, h => by
    unfold freezeK at h
    obtain ⟨b, hb, h⟩ := lookK_spec _ _ _ h
    split at h
    · rename_i ty q n g
      obtain ⟨lent, h1, h2, h3⟩ := freezeK_spec l _ h
      refine ⟨(j, .slc ty q n g) :: lent, h1, by simp [h2], fun p hp => ?_⟩
      rcases List.mem_cons.1 hp with rfl | hp
      · exact ⟨hb, .inl ⟨_, _, _, _, rfl⟩⟩
      · exact h3 p hp
    · rename_i q n g
      obtain ⟨lent, h1, h2, h3⟩ := freezeK_spec l _ h
      refine ⟨(j, .fsl q n g) :: lent, h1, by simp [h2], fun p hp => ?_⟩
      rcases List.mem_cons.1 hp with rfl | hp
      · exact ⟨hb, .inr (.inl ⟨_, _, _, rfl⟩)⟩
      · exact h3 p hp
    · rename_i ty r
      obtain ⟨lent, h1, h2, h3⟩ := freezeK_spec l _ h
      refine ⟨(j, .row ty r) :: lent, h1, by simp [h2], fun p hp => ?_⟩
      rcases List.mem_cons.1 hp with rfl | hp
      · exact ⟨hb, .inr (.inr ⟨_, _, rfl⟩)⟩
      · exact h3 p hp
    · exact h.elim
theorem nodupB_spec : ∀ (l : List Nat), nodupB l = true → ∀ (i i' j : Nat), l[i]? = some j → l[i']? = some j → i = i'
  | [], _, i, _, _, h, _ => by simp at h
  | x :: l, h, i, i', j, h1, h2 => by
    simp only [nodupB, Bool.and_eq_true, Bool.not_eq_true'] at h
    obtain ⟨h3, h4⟩ := h
    have hx : ∀ m : Nat, l[m]? = some x → False := by
      intro m hm
      have : x ∈ l := List.mem_of_getElem? hm
      simp [this] at h3
    cases i with
    | zero =>
      cases i' with
      | zero => rfl
      | succ m => simp at h1 h2; subst h1; exact (hx m h2).elim
    | succ n =>
      cases i' with
      | zero => simp at h1 h2; subst h2; exact (hx n h1).elim
      | succ m => simp at h1 h2; rw [nodupB_spec l h4 n m j h1 h2]
theorem look_mem : ∀ (l : List (Nat × Blk)) (j : Nat) (b : Blk), look l j = some b → (j, b) ∈ l
  | [], _, _, h => by simp [look] at h
  | (i, c) :: l, j, b, h => by
    simp only [look] at h
    split at h
    · rename_i e; cases h; subst e; simp
    · exact List.mem_cons_of_mem _ (look_mem l j b h)
theorem look_of_mem {l : List (Nat × Blk)} {j : Nat} {b : Blk} (h : (j, b) ∈ l) : ∃ c, look l j = some c := by
  induction l with
  | nil => simp at h
  | cons x l ih =>
    obtain ⟨i, c⟩ := x
    simp only [look]
    split
    · exact ⟨c, rfl⟩
    · rename_i e
      rcases List.mem_cons.1 h with h | h
      · cases h; exact (e rfl).elim
      · exact ih h
theorem blksAt_spec {bs : List (Nat × Blk)} : ∀ (σ : List Nat) (p : Nat × Blk), p ∈ blksAt bs σ → p.1 ∈ σ ∧ look bs p.1 = some p.2
  | [], p, h => by simp [blksAt] at h
  | j :: l, p, h => by
    unfold blksAt at h
    split at h
    · rename_i b hb
      rcases List.mem_cons.1 h with rfl | h
      · exact ⟨by simp, hb⟩
      · have := blksAt_spec l p h; exact ⟨List.mem_cons_of_mem _ this.1, this.2⟩
    · have := blksAt_spec l p h; exact ⟨List.mem_cons_of_mem _ this.1, this.2⟩
theorem blksAt_mem {bs : List (Nat × Blk)} : ∀ (σ : List Nat) (j : Nat) (b : Blk), j ∈ σ → look bs j = some b → (j, b) ∈ blksAt bs σ
  | [], j, b, h, _ => by simp at h
  | i :: l, j, b, h, hb => by
    unfold blksAt
    rcases List.mem_cons.1 h with rfl | h
    · rw [hb]; simp
    · have := blksAt_mem l j b h hb
      split
      · exact List.mem_cons_of_mem _ this
      · exact this
end Go.Eng
namespace Go.Eng
open Go
theorem plain_cell {O O' : Nat → Prop} {w w' : World} {hs hs' : Names} {c : Cell} {u : Value} (hp : c.plain = true) (h : Rel O w c hs u) : Rel O' w' c hs' u := by
  cases c <;> first | exact h | cases hp
theorem plain_sv {O O' : Nat → Prop} {w w' : World} {hs hs' : Names} {x : Sv} {u : Value} (hp : x.plain = true) (h : SvRel O w x hs u) : SvRel O' w' x hs' u := by
  cases x with
  | c x => exact plain_cell hp h
  | agg l =>
    obtain ⟨cs, h1, h2, h3⟩ := h
    refine ⟨cs, h1, h2, fun i c v hc hv => plain_cell ?_ (h3 i c v hc hv)⟩
    exact List.all_eq_true.1 hp c (List.mem_of_getElem? hc)
theorem plain_rv {O O' : Nat → Prop} {w w' : World} {hs hs' : Names} {x : RV} {u : Value} (hp : x.plain = true) (h : RVRel O w x hs u) : RVRel O' w' x hs' u := by
  cases x with
  | s x => exact plain_sv hp h
  | un => exact h
  | any => trivial
  | tup l =>
    obtain ⟨cs, h1, h2, h3⟩ := h
    refine ⟨cs, h1, h2, fun i c v hc hv => plain_sv ?_ (h3 i c v hc hv)⟩
    exact List.all_eq_true.1 hp c (List.mem_of_getElem? hc)
theorem blksEq_spec {bs : List (Nat × Blk)} {σ : List Nat} : ∀ (l : List (Nat × Blk)), blksEq bs σ l → ∀ p ∈ l, ∃ j b', σ[p.1]? = some j ∧ look bs j = some b' ∧ blkEq σ p.2 b'
  | [], _, p, hp => by simp at hp
  | (i, b) :: l, h, p, hp => by
    obtain ⟨h1, h2⟩ := h
    rcases List.mem_cons.1 hp with rfl | hp
    · obtain ⟨j, h3, h4⟩ := nthK_spec _ _ _ h1
      obtain ⟨b', h5, h6⟩ := lookK_spec _ _ _ h4
      exact ⟨j, b', h3, h5, h6⟩
    · exact blksEq_spec l h2 p hp
theorem look_map_inj (f : Nat → Nat) (g : Blk → Blk) : ∀ (l : List (Nat × Blk)), (∀ p ∈ l, ∀ q ∈ l, f p.1 = f q.1 → p.1 = q.1) → ∀ j b, look l j = some b → look (l.map fun p => (f p.1, g p.2)) (f j) = some (g b)
  | [], _, j, b, h => by simp [look] at h
  | (i, c) :: l, hinj, j, b, h => by
    simp only [List.map_cons, look] at h ⊢
    by_cases e : i = j
    · subst e; rw [if_pos rfl] at h ⊢; cases h; rfl
    · rw [if_neg e] at h
      have hm := look_mem l j b h
      rw [if_neg (fun e2 => e (hinj (i, c) (by simp) (j, b) (by simp [hm]) e2))]
      exact look_map_inj f g l (fun p hp q hq => hinj p (by simp [hp]) q (by simp [hq])) j b h
theorem look_map_some (f : Nat → Nat) (g : Blk → Blk) : ∀ (l : List (Nat × Blk)) k b', (∀ p ∈ l, ∀ q ∈ l, f p.1 = f q.1 → p.1 = q.1) → look (l.map fun p => (f p.1, g p.2)) k = some b' → ∃ j b, look l j = some b ∧ f j = k ∧ g b = b'
  | [], k, b', _, h => by simp [look] at h
  | (i, c) :: l, k, b', hinj, h => by
    simp only [List.map_cons, look] at h
    by_cases e : f i = k
    · rw [if_pos e] at h; cases h
      exact ⟨i, c, by simp [look], e, rfl⟩
    · rw [if_neg e] at h
      obtain ⟨j, b, h1, h2, h3⟩ := look_map_some f g l k b' (fun p hp q hq => hinj p (by simp [hp]) q (by simp [hq])) h
      refine ⟨j, b, ?_, h2, h3⟩
      simp only [look]
      rw [if_neg (fun e2 => e (by rw [e2]; exact h2))]
      exact h1
section
variable {P : Program} {o : Oper} {regs : List RV} {bs : List (Nat × Blk)} {nx : Nat}
/-- The call, in a world where the caller's part is B. -/
theorem call_view {fid : FuncId} {S : FSpec} (hM : Meets P fid S) (γ : S.G) {σ : List Nat} (hσl : σ.length = (S.blks γ).length) {vs : List RV}
    (hargs : rvsEq bs σ (S.args γ) vs) (hblks : blksEq bs σ (S.blks γ)) (hnd : nodupB σ = true) {lent : List (Nat × Blk)} (hlent : lent.map (·.1) = lentRs (S.args γ) vs)
    (hlb : ∀ p ∈ lent, look bs p.1 = some p.2) (hdis : disjB σ (lent.map (·.1)) = true)
    {F : Nat → Prop} {hs : Names} {w : World} {vals : Array Value} (hw : WRep F hs (look (lent ++ blksAt bs σ)) w)
    (hvals : ArgsRel (Osum F hs (look (lent ++ blksAt bs σ))) w hs vs vals) :
    (∀ x, Osum F (fun i => if i < σ.length then hs (σ.getD i 0) else none) (look (S.blks γ)) x → Osum F hs (look (lent ++ blksAt bs σ)) x) ∧
    (∀ x, own (fun i => if i < σ.length then hs (σ.getD i 0) else none) (look (S.blks γ)) x → own hs (look (lent ++ blksAt bs σ)) x) ∧
    (∀ p ∈ lent, Lent bs hs (look (lent ++ blksAt bs σ)) (Osum F (fun i => if i < σ.length then hs (σ.getD i 0) else none) (look (S.blks γ))) p.1) ∧
    (∀ i, i < σ.length → ∃ h, hs (σ.getD i 0) = some h) ∧
    (∀ j, (S.blks γ).length ≤ j → (fun i => if i < σ.length then hs (σ.getD i 0) else none) j = none) ∧ ArgsRel (Osum F (fun i => if i < σ.length then hs (σ.getD i 0) else none) (look (S.blks γ))) w (fun i => if i < σ.length then hs (σ.getD i 0) else none) (S.args γ) vals ∧ WRep F (fun i => if i < σ.length then hs (σ.getD i 0) else none) (look (S.blks γ)) w := by
  have hBlook : ∀ j b, look (lent ++ blksAt bs σ) j = some b → look bs j = some b := by
    intro j b h
    have hm := look_mem _ j b h
    rcases List.mem_append.1 hm with hm | hm
    · exact hlb _ hm
    · exact (blksAt_spec σ _ hm).2
  have hBσ : ∀ (i j : Nat) (b : Blk), σ[i]? = some j → look bs j = some b → look (lent ++ blksAt bs σ) j = some b := by
    intro i j b hi hb
    have hm := blksAt_mem σ j b (List.mem_of_getElem? hi) hb
    obtain ⟨c, hc⟩ := look_of_mem (List.mem_append.2 (.inr hm) : (j, b) ∈ lent ++ blksAt bs σ)
    have := hBlook j c hc
    rw [hb] at this; cases this
    exact hc
  have hσget : ∀ (i j : Nat), σ[i]? = some j → i < σ.length ∧ σ.getD i 0 = j := fun i j h => ⟨(List.getElem?_eq_some_iff.1 h).1, by rw [List.getD_eq_getElem?_getD, h]; rfl⟩
  have hσ : ∀ (i j : Nat) (h : Value), σ[i]? = some j → hs j = some h → (fun i => if i < σ.length then hs (σ.getD i 0) else none) i = some h := by
    intro i j h h1 h2
    obtain ⟨h3, h4⟩ := hσget i j h1
    simp only [h3, if_true, h4, h2]
  have hblk : ∀ i b, look (S.blks γ) i = some b → ∃ j b' h, σ[i]? = some j ∧ look (lent ++ blksAt bs σ) j = some b' ∧ hs j = some h ∧ blkEq σ b b' ∧ BlkRel (Osum F hs (look (lent ++ blksAt bs σ))) w hs b' h := by
    intro i b hb
    obtain ⟨j, b', h1, h2, h3⟩ := blksEq_spec _ hblks (i, b) (look_mem _ i b hb)
    have h4 := hBσ i j b' h1 h2
    obtain ⟨h, hh, hr⟩ := hw.blk j b' h4
    exact ⟨j, b', h, h1, h4, hh, h3, hr⟩
  have hown : ∀ x, own (fun i => if i < σ.length then hs (σ.getD i 0) else none) (look (S.blks γ)) x → ∃ i j b' h, σ[i]? = some j ∧ look (lent ++ blksAt bs σ) j = some b' ∧ hs j = some h ∧ owner b' h = some x ∧ ∃ b, look (S.blks γ) i = some b := by
    rintro x ⟨i, b, u, hb, hu, hx⟩
    obtain ⟨j, b', h, h1, h2, h3, h4, h5⟩ := hblk i b hb
    have hu2 : some h = some u := (hσ i j h h1 h3).symm.trans hu
    rw [← Option.some.inj hu2] at hx
    have h6 : ∀ z, owner b h = some z → owner b' h = some z := by
      exact (blkEq_rel (O' := Osum F hs (look (lent ++ blksAt bs σ))) hw (fun _ h => h) hσ b b' h4 h5).2
    exact ⟨i, j, b', h, h1, h2, h3, h6 x hx, b, hb⟩
  have hO1 : ∀ x, own (fun i => if i < σ.length then hs (σ.getD i 0) else none) (look (S.blks γ)) x → own hs (look (lent ++ blksAt bs σ)) x := by
    intro x hx
    obtain ⟨i, j, b', h, _, h2, h3, h4, _⟩ := hown x hx
    exact ⟨j, b', h, h2, h3, h4⟩
  have hO : ∀ x, Osum F (fun i => if i < σ.length then hs (σ.getD i 0) else none) (look (S.blks γ)) x → Osum F hs (look (lent ++ blksAt bs σ)) x := fun x hx => hx.imp id (hO1 x)
  have hLent : ∀ p ∈ lent, Lent bs hs (look (lent ++ blksAt bs σ)) (Osum F (fun i => if i < σ.length then hs (σ.getD i 0) else none) (look (S.blks γ))) p.1 := by
    intro p hp
    have hb := hlb p hp
    obtain ⟨c, hc⟩ := look_of_mem (List.mem_append.2 (.inl hp) : (p.1, p.2) ∈ lent ++ blksAt bs σ)
    have := hBlook _ c hc
    rw [hb] at this; cases this
    refine ⟨p.2, hb, hc, fun x h hh hx hO' => ?_⟩
    rcases hO' with hF | hO'
    · exact hw.apart x hF ⟨p.1, p.2, h, hc, hh, hx⟩
    · obtain ⟨i, j, b', h', h1, h2, h3, h4, _⟩ := hown x hO'
      have e := hw.sep _ _ _ _ _ _ x hc h2 hh h3 hx h4
      have hj : j ∈ σ := List.mem_of_getElem? h1
      have hd := List.all_eq_true.1 hdis j hj
      simp only [Bool.not_eq_true', List.contains_eq_mem, decide_eq_false_iff_not] at hd
      exact hd (by rw [← e]; exact List.mem_map.2 ⟨p, hp, rfl⟩)
  have hfull : ∀ i, i < σ.length → ∃ h, hs (σ.getD i 0) = some h := by
    intro i hi
    obtain ⟨b, hb⟩ := hM.full γ i (by omega)
    obtain ⟨j, b', h, h1, _, h3, _⟩ := hblk i b hb
    rw [(hσget i j h1).2]
    exact ⟨h, h3⟩
  have hlentR : ∀ j ∈ lentRs (S.args γ) vs, Lent bs hs (look (lent ++ blksAt bs σ)) (Osum F (fun i => if i < σ.length then hs (σ.getD i 0) else none) (look (S.blks γ))) j := by
    intro j hj
    rw [← hlent] at hj
    obtain ⟨p, hp, rfl⟩ := List.mem_map.1 hj
    exact hLent p hp
  refine ⟨hO, hO1, hLent, hfull, fun j hj => ?_, ?_, ⟨?_, ?_, hw.lt, fun x hx h => hw.apart x hx (hO1 x h)⟩⟩
  · have : ¬ j < σ.length := by omega
    simp only [this, if_false]
  · obtain ⟨h1, h2⟩ := rvsEq_rel hw hO hσ (S.args γ) vs hlentR hargs
    refine ⟨by rw [hvals.1, h1], fun i a v ha hv => h2 i a v ha fun c' hc' => hvals.2 i c' v hc' hv⟩
  · intro i b hb
    obtain ⟨j, b', h, h1, h2, h3, h4, h5⟩ := hblk i b hb
    exact ⟨h, hσ i j h h1 h3, (blkEq_rel hw hO hσ b b' h4 h5).1⟩
  · intro i i' bi bj hi hi' x hbi hbj hhi hhj hoi hoj
    obtain ⟨j, b', h, h1, h2, h3, h4, h5⟩ := hblk i bi hbi
    obtain ⟨j', b'', h', h1', h2', h3', h4', h5'⟩ := hblk i' bj hbj
    have hu2 : some h = some hi := (hσ i j h h1 h3).symm.trans hhi
    have hu2' : some h' = some hi' := (hσ i' j' h' h1' h3').symm.trans hhj
    rw [← Option.some.inj hu2] at hoi
    rw [← Option.some.inj hu2'] at hoj
    have e1 := (blkEq_rel (O' := Osum F hs (look (lent ++ blksAt bs σ))) hw (fun _ h => h) hσ bi b' h4 h5).2 x hoi
    have e2 := (blkEq_rel (O' := Osum F hs (look (lent ++ blksAt bs σ))) hw (fun _ h => h) hσ bj b'' h4' h5').2 x hoj
    have := hw.sep j j' b' b'' h h' x h2 h2' h3 h3' e1 e2
    subst this
    exact nodupB_spec σ hnd i i' j h1 h1'
/-- The call, in a world where the caller's part is B. -/
theorem call_core {fid : FuncId} {S : FSpec} (hM : Meets P fid S) (γ : S.G) (hy : S.yields γ = none) (hpre : S.pre γ) {σ : List Nat} (hσl : σ.length = (S.blks γ).length) {vs : List RV}
    (hargs : rvsEq bs σ (S.args γ) vs) (hblks : blksEq bs σ (S.blks γ)) (hnd : nodupB σ = true) {lent : List (Nat × Blk)} (hlent : lent.map (·.1) = lentRs (S.args γ) vs)
    (hlb : ∀ p ∈ lent, look bs p.1 = some p.2) (hdis : disjB σ (lent.map (·.1)) = true)
    {F : Nat → Prop} {hs : Names} {w : World} {vals : Array Value} (hw : WRep F hs (look (lent ++ blksAt bs σ)) w)
    (hvals : ArgsRel (Osum F hs (look (lent ++ blksAt bs σ))) w hs vs vals) :
    (∀ x, Osum F (fun i => if i < σ.length then hs (σ.getD i 0) else none) (look (S.blks γ)) x → Osum F hs (look (lent ++ blksAt bs σ)) x) ∧
    (∀ x, own (fun i => if i < σ.length then hs (σ.getD i 0) else none) (look (S.blks γ)) x → own hs (look (lent ++ blksAt bs σ)) x) ∧
    (∀ p ∈ lent, Lent bs hs (look (lent ++ blksAt bs σ)) (Osum F (fun i => if i < σ.length then hs (σ.getD i 0) else none) (look (S.blks γ))) p.1) ∧
    (∀ i, i < σ.length → ∃ h, hs (σ.getD i 0) = some h) ∧
    Calls P fid vals w fun e w' => ∃ v, EndsAs (S.panics γ) e v ∧ Post F (fun i => if i < σ.length then hs (σ.getD i 0) else none) (look (S.blks γ)) w (S.res γ) (look (S.post γ)) (S.blks γ).length (max (S.blks γ).length (S.post γ).length) v w' := by
  obtain ⟨h1, h2, h3, h4, h5, h6, h7⟩ := call_view hM γ hσl hargs hblks hnd hlent hlb hdis hw hvals
  exact ⟨h1, h2, h3, h4, hM.run γ hy hpre F _ w vals h5 h6 h7⟩
end
end Go.Eng
namespace Go.Eng
open Go
section
variable {P : Program} {o : Oper} {regs : List RV} {bs : List (Nat × Blk)} {nx : Nat}
theorem froz_fsl {b : Blk} (h : (∃ ty q n g, b = .slc ty q n g) ∨ (∃ q n g, b = .fsl q n g) ∨ ∃ ty l, b = .row ty l) : (∃ q n g, froz b = .fsl q n g ∧ ((∃ ty, b = .slc ty q n g) ∨ b = .fsl q n g)) ∨ froz b = .gone := by
  rcases h with ⟨ty, q, n, g, rfl⟩ | ⟨q, n, g, rfl⟩ | ⟨ty, l, rfl⟩
  · exact .inl ⟨q, n, g, rfl, .inl ⟨ty, rfl⟩⟩
  · exact .inl ⟨q, n, g, rfl, .inr rfl⟩
  · exact .inr rfl
theorem froz_none {b : Blk} (h : (∃ ty q n g, b = .slc ty q n g) ∨ (∃ q n g, b = .fsl q n g) ∨ ∃ ty l, b = .row ty l) (u : Value) : owner (froz b) u = none := by
  rcases froz_fsl h with ⟨q, n, g, e, _⟩ | e
  · rw [e]; rfl
  · rw [e]; rfl
theorem look_froz (lent : List (Nat × Blk)) (k : Nat) : look (lent.map fun p => (p.1, froz p.2)) k = (look lent k).map froz := by
  induction lent with
  | nil => rfl
  | cons p l ih =>
    simp only [List.map_cons, look]
    split
    · rfl
    · exact ih
theorem call_post {fid : FuncId} {S : FSpec} (hM : Meets P fid S) (γ : S.G) (hy : S.yields γ = none) (hpre : S.pre γ) {σ : List Nat} (hσl : σ.length = (S.blks γ).length) {vs : List RV}
    (hargs : rvsEq bs σ (S.args γ) vs) (hblks : blksEq bs σ (S.blks γ)) (hnd : nodupB σ = true) {lent : List (Nat × Blk)} (hlent : lent.map (·.1) = lentRs (S.args γ) vs)
    (hlb : ∀ p ∈ lent, look bs p.1 = some p.2 ∧ ((∃ ty q n g, p.2 = .slc ty q n g) ∨ (∃ q n g, p.2 = .fsl q n g) ∨ ∃ ty l, p.2 = .row ty l)) (hdis : disjB σ (lent.map (·.1)) = true)
    {F : Nat → Prop} {hs : Names} {w : World} {vals : Array Value} (hw : WRep F hs (look (lent ++ blksAt bs σ)) w) (hf : ∀ j, nx ≤ j → j < nx + ((S.post γ).length - σ.length) → hs j = none) (hbn : ∀ j b, look bs j = some b → j < nx)
    (hvals : ArgsRel (Osum F hs (look (lent ++ blksAt bs σ))) w hs vs vals) :
    Calls P fid vals w fun e w' => ∃ v, EndsAs (S.panics γ) e v ∧
      Post F hs (look (lent ++ blksAt bs σ)) w (rvR σ nx (S.res γ)) (look ((lent.map fun p => (p.1, froz p.2)) ++ (S.post γ).map fun p => (ren σ nx p.1, blkR σ nx p.2)))
        nx (nx + ((S.post γ).length - σ.length)) v w' := by
  obtain ⟨hO, hO1, hLent, hfull, hcall⟩ := call_core hM γ hy hpre hσl hargs hblks hnd hlent (fun p hp => (hlb p hp).1) hdis hw hvals
  refine hcall.mono ?_
  rintro e w' ⟨v, he, hs', h1, h2, h3, h4, h5, h6⟩
  refine ⟨v, he, ?_⟩
  have hlt : ∀ i, i < σ.length → σ.getD i 0 < nx := by
    intro i hi
    obtain ⟨c, hc⟩ := hM.full γ i (by omega)
    obtain ⟨j, b', h8, h9, _⟩ := blksEq_spec _ hblks (i, c) (look_mem _ _ _ hc)
    rw [List.getD_eq_getElem?_getD, h8]
    exact hbn j b' h9
  have hext0 : ∀ i h, i < σ.length → hs (σ.getD i 0) = some h → hs' i = some h := by
    intro i h hi hh
    exact h3 i h (by simp only [hi, if_true]; exact hh)
  have hM' : max (S.blks γ).length (S.post γ).length = σ.length + ((S.post γ).length - σ.length) := by omega
  -- the caller's names behind the call
  have hn : ∀ j h, hs' j = some h → (fun k => if nx ≤ k ∧ k < nx + ((S.post γ).length - σ.length) then hs' (k - nx + σ.length) else hs k) (ren σ nx j) = some h := by
    intro j h hj
    unfold ren
    by_cases hjm : j < σ.length
    · have := hlt j hjm
      obtain ⟨h0, hh0⟩ := hfull j hjm
      have := hext0 j h0 hjm hh0
      rw [hj] at this; cases this
      simp only [hjm, if_true]
      rw [if_neg (by omega)]
      exact hh0
    · simp only [hjm, if_false]
      have hlt2 : j < σ.length + ((S.post γ).length - σ.length) := by
        rcases Nat.lt_or_ge j (σ.length + ((S.post γ).length - σ.length)) with h' | h'
        · exact h'
        · rw [h4 j (by rw [hM']; omega)] at hj
          simp only [hjm, if_false] at hj; cases hj
      rw [if_pos (by omega)]
      rw [show nx + (j - σ.length) - nx + σ.length = j by omega]
      exact hj
  have hrinj : ∀ i j, i < σ.length + ((S.post γ).length - σ.length) → j < σ.length + ((S.post γ).length - σ.length) → ren σ nx i = ren σ nx j → i = j := by
    intro i j hi hj he
    unfold ren at he
    by_cases him : i < σ.length
    · by_cases hjm : j < σ.length
      · simp only [him, hjm, if_true] at he
        refine nodupB_spec σ hnd i j (σ.getD i 0) ?_ ?_
        · rw [List.getD_eq_getElem?_getD, List.getElem?_eq_getElem him]; rfl
        · rw [he, List.getD_eq_getElem?_getD, List.getElem?_eq_getElem hjm]; rfl
      · simp only [him, hjm, if_true, if_false] at he
        have := hlt i him; omega
    · by_cases hjm : j < σ.length
      · simp only [him, hjm, if_true, if_false] at he
        have := hlt j hjm; omega
      · simp only [him, hjm, if_false] at he; omega
  have hqn : ∀ p ∈ S.post γ, p.1 < σ.length + ((S.post γ).length - σ.length) := by
    intro p hp
    obtain ⟨c, hc⟩ := look_of_mem (show (p.1, p.2) ∈ S.post γ from hp)
    have := hM.qn γ p.1 c hc
    omega
  have hpb : ∀ k b', look ((S.post γ).map fun p => (ren σ nx p.1, blkR σ nx p.2)) k = some b' → ∃ j b, look (S.post γ) j = some b ∧ ren σ nx j = k ∧ blkR σ nx b = b' :=
    fun k b' h => look_map_some (ren σ nx) (blkR σ nx) _ k b' (fun p hp q hq => hrinj _ _ (hqn p hp) (hqn q hq)) h
  have hpb' : ∀ j b, look (S.post γ) j = some b → look ((S.post γ).map fun p => (ren σ nx p.1, blkR σ nx p.2)) (ren σ nx j) = some (blkR σ nx b) :=
    fun j b h => look_map_inj (ren σ nx) (blkR σ nx) _ (fun p hp q hq => hrinj _ _ (hqn p hp) (hqn q hq)) j b h
  -- a lent name is none of the called function's
  have hlr : ∀ p ∈ lent, ∀ j, j < σ.length + ((S.post γ).length - σ.length) → p.1 ≠ ren σ nx j := by
    intro p hp j hj he
    have hp1 : p.1 < nx := by
      obtain ⟨b, hB, _⟩ := hLent p hp
      exact hbn _ _ hB
    unfold ren at he
    by_cases hjm : j < σ.length
    · simp only [hjm, if_true] at he
      have hmem : σ.getD j 0 ∈ σ := by
        rw [List.getD_eq_getElem?_getD, List.getElem?_eq_getElem hjm]; exact List.getElem_mem hjm
      have hd := List.all_eq_true.1 hdis _ hmem
      simp only [Bool.not_eq_true', List.contains_eq_mem, decide_eq_false_iff_not] at hd
      exact hd (by rw [← he]; exact List.mem_map.2 ⟨p, hp, rfl⟩)
    · simp only [hjm, if_false] at he; omega
  have hlook : ∀ k b', look ((lent.map fun p => (p.1, froz p.2)) ++ (S.post γ).map fun p => (ren σ nx p.1, blkR σ nx p.2)) k = some b' →
      (∃ b, look lent k = some b ∧ b' = froz b) ∨ (look lent k = none ∧ ∃ j b, look (S.post γ) j = some b ∧ ren σ nx j = k ∧ blkR σ nx b = b') := by
    intro k b' h
    rw [look_append, look_froz] at h
    cases hl : look lent k with
    | some b => rw [hl] at h; simp at h; exact .inl ⟨b, rfl, h.symm⟩
    | none => rw [hl] at h; simp at h; exact .inr ⟨rfl, hpb k b' h⟩
  have hlook2 : ∀ j b, look (S.post γ) j = some b → look ((lent.map fun p => (p.1, froz p.2)) ++ (S.post γ).map fun p => (ren σ nx p.1, blkR σ nx p.2)) (ren σ nx j) = some (blkR σ nx b) := by
    intro j b h
    rw [look_append, look_froz]
    have : look lent (ren σ nx j) = none := by
      cases hl : look lent (ren σ nx j) with
      | none => rfl
      | some c =>
        have hq := hM.qn γ j b h
        exact (hlr _ (look_mem _ _ _ hl) j (by omega) rfl).elim
    rw [this]
    simp [hpb' j b h]
  have hlentfsl : ∀ k b, look lent k = some b → (∃ q n g, froz b = .fsl q n g ∧ ((∃ ty, b = .slc ty q n g) ∨ b = .fsl q n g)) ∨ froz b = .gone := fun k b h => froz_fsl (hlb _ (look_mem _ _ _ h)).2
  have hlentno : ∀ k b u, look lent k = some b → owner (froz b) u = none := fun k b u h => froz_none (hlb _ (look_mem _ _ _ h)).2 u
  have hownE : ∀ x, own (fun k => if nx ≤ k ∧ k < nx + ((S.post γ).length - σ.length) then hs' (k - nx + σ.length) else hs k)
      (look ((lent.map fun p => (p.1, froz p.2)) ++ (S.post γ).map fun p => (ren σ nx p.1, blkR σ nx p.2))) x ↔ own hs' (look (S.post γ)) x := by
    intro x
    constructor
    · rintro ⟨k, b', u, hb, hu, hx⟩
      rcases hlook k b' hb with ⟨b, hl, rfl⟩ | ⟨_, j, b, hj, rfl, rfl⟩
      · rw [hlentno k b _ hl] at hx; cases hx
      · obtain ⟨u', hu', hr'⟩ := h2.blk j b hj
        have := hn j u' hu'
        have hu2 : some u' = some u := this.symm.trans hu
        rw [← Option.some.inj hu2, owner_blkR] at hx
        exact ⟨j, b, u', hj, hu', hx⟩
    · rintro ⟨j, b, u, hb, hu, hx⟩
      exact ⟨ren σ nx j, blkR σ nx b, u, hlook2 j b hb, hn j u hu, by rw [owner_blkR]; exact hx⟩
  have hOE : Osum F (fun k => if nx ≤ k ∧ k < nx + ((S.post γ).length - σ.length) then hs' (k - nx + σ.length) else hs k)
      (look ((lent.map fun p => (p.1, froz p.2)) ++ (S.post γ).map fun p => (ren σ nx p.1, blkR σ nx p.2))) = Osum F hs' (look (S.post γ)) := by
    funext x
    exact propext ⟨fun h => h.imp id (hownE x).1, fun h => h.imp id (hownE x).2⟩
  refine ⟨fun k => if nx ≤ k ∧ k < nx + ((S.post γ).length - σ.length) then hs' (k - nx + σ.length) else hs k, ?_, ⟨?_, ?_, ?_, ?_⟩, ?_, ?_, h5.mono (fun x _ hx => hO1 x hx), ?_⟩
  · rw [hOE]; exact rvR_rel hn _ h1
  · intro k b' hk
    rw [hOE]
    rcases hlook k b' hk with ⟨b, hl, rfl⟩ | ⟨_, j, b, hj, rfl, rfl⟩
    · have hmem := look_mem _ _ _ hl
      obtain ⟨c, hc1, hc2, hc3⟩ := hLent (k, b) hmem
      have hbc : b = c := by
        have := (hlb _ hmem).1
        simp only at this hc1
        rw [hc1] at this; exact (Option.some.inj this).symm
      subst hbc
      obtain ⟨h, hh, hr⟩ := hw.blk k b hc2
      have hkx : k < nx := hbn _ _ hc1
      refine ⟨h, by simp only [show ¬ (nx ≤ k ∧ k < nx + ((S.post γ).length - σ.length)) by omega, if_false]; exact hh, ?_⟩
      rcases hlentfsl k b hl with ⟨q, n, g, hfz, hbb⟩ | hfz
      case inr => rw [hfz]; trivial
      rw [hfz]
      -- what was lent reads as it did
      have hro : Rel (Osum F (fun i => if i < σ.length then hs (σ.getD i 0) else none) (look (S.blks γ))) w (.ro n q false g) noNames h := by
        refine cellEq_rel (bs := bs) (σ := []) (hc := noNames) (hs := hs) hw hO (fun i j h h1 => by simp at h1) (.ro n q false g) (.osl k) (fun j hj => ?_) ?_ ⟨hh, ?_⟩
        · simp only [lentC, List.mem_singleton] at hj
          subst hj
          exact ⟨b, hc1, hc2, hc3⟩
        · refine ⟨rfl, ?_⟩
          have key : ∀ (l : List (Nat × Blk)) (b : Blk) (K : Blk → Prop), look l k = some b → K b → lookK l k K := by
            intro l
            induction l with
            | nil => intro b K h; simp [look] at h
            | cons p l ih =>
              intro b K h hK
              obtain ⟨i, c⟩ := p
              simp only [look] at h
              unfold lookK
              by_cases e : i = k
              · subst e
                rw [if_pos rfl] at h; cases h
                rw [Nat.beq_refl]; exact hK
              · rw [if_neg e] at h
                rw [beq_false_of_ne e]
                exact ih b K h hK
          refine key bs b _ hc1 ?_
          rcases hbb with ⟨ty, rfl⟩ | rfl
          · exact ⟨rfl, rfl, fun _ _ _ _ => rfl⟩
          · exact ⟨rfl, rfl, fun _ _ _ _ => rfl⟩
        · rcases hbb with ⟨ty, rfl⟩ | rfl
          · rcases hr with ⟨rfl, _⟩ | ⟨x0, cap, cs, rfl, _⟩
            · exact ⟨_, _, _, rfl⟩
            · exact ⟨_, _, _, rfl⟩
          · obtain ⟨a, cap, rfl, _⟩ := hr
            exact ⟨_, _, _, rfl⟩
      refine Rel.mono h5.size (fun x hx hnx => h5.block x hx fun h' => hnx (.inr h')) (fun x hx => ?_) _ _ _ _ (fun _ _ h => h) hro
      rcases hx with hx | hx
      · exact .inl (.inl hx)
      · exact (h6 x hx).imp .inr id
    · obtain ⟨u, hu, hr⟩ := h2.blk j b hj
      exact ⟨u, hn j u hu, blkR_rel hn b hr⟩
  · intro k k' b1 b2 u1 u2 x hb1 hb2 hu1 hu2 ho1 ho2
    rcases hlook k b1 hb1 with ⟨b, hl, rfl⟩ | ⟨_, j, b, hj, rfl, rfl⟩
    · rw [hlentno k b _ hl] at ho1; cases ho1
    · rcases hlook k' b2 hb2 with ⟨b', hl, rfl⟩ | ⟨_, j', b', hj', rfl, rfl⟩
      · rw [hlentno k' b' _ hl] at ho2; cases ho2
      · obtain ⟨v1, hv1, _⟩ := h2.blk j b hj
        obtain ⟨v2, hv2, _⟩ := h2.blk j' b' hj'
        have e1 : some v1 = some u1 := (hn j v1 hv1).symm.trans hu1
        have e2 : some v2 = some u2 := (hn j' v2 hv2).symm.trans hu2
        rw [← Option.some.inj e1, owner_blkR] at ho1
        rw [← Option.some.inj e2, owner_blkR] at ho2
        rw [h2.sep j j' b b' v1 v2 x hj hj' hv1 hv2 ho1 ho2]
  · exact h2.lt
  · intro x hx h'
    exact h2.apart x hx ((hownE x).1 h')
  · intro j h hj
    have : ¬ (nx ≤ j ∧ j < nx + ((S.post γ).length - σ.length)) := by
      intro h'
      rw [hf j h'.1 h'.2] at hj; cases hj
    simp only [this, if_false]
    exact hj
  · intro j hj
    simp only [hj, if_false]
  · intro x hx
    rcases h6 x ((hownE x).1 hx) with h' | h'
    · exact .inl (hO1 x h')
    · exact .inr h'
end
end Go.Eng
namespace Go.Eng
open Go
def GOK (P : Program) (Γ : FuncId → Option FSpec) : Prop := ∀ f S, Γ f = some S → Meets P f S
section
variable {P : Program} {o : Oper} {regs : List RV} {bs : List (Nat × Blk)} {nx : Nat}
theorem run_call {c : Call} {f : Operand} {fid : FuncId} {arr : Array Value} {fn : Func} {ρ : Operand → Value} (ho : o.op = .call c) (hc : c.callee = .value f) (hf : ρ f = .func (.func fid) #[] arr)
    (hfn : P.funcs[fid]? = some fn) (hb : fn.body.isSome = true) (hn : (fn.name == "runtime.NumGoroutine") = false) (w : World) :
    (execOp ρ o).run P w = .ok (.enter fid (c.args.map ρ ++ arr)) w := by
  have hb' : ¬ fn.body = none := by
    intro h; rw [h] at hb; cases hb
  have hn' : ¬ fn.name = "runtime.NumGoroutine" := by simpa using hn
  simp only [execOp, ho, resolve, hc, hf]
  simp [Deferred.ofValue, invoke, callFunc, hfn, hn', hb']
theorem run_callB {c : Call} {f : Operand} {fid : FuncId} {arr : Array Value} {fn : Func} {ρ : Operand → Value} (ho : o.op = .call c) (hc : c.callee = .value f) (hf : ρ f = .func (.func fid) arr #[]) (hn0 : c.args.toList = [])
    (hfn : P.funcs[fid]? = some fn) (hb : fn.body.isSome = true) (hn : (fn.name == "runtime.NumGoroutine") = false) (w : World) :
    (execOp ρ o).run P w = .ok (.enter fid (c.args.map ρ ++ arr)) w := by
  have hb' : ¬ fn.body = none := by
    intro h; rw [h] at hb; cases hb
  have hn' : ¬ fn.name = "runtime.NumGoroutine" := by simpa using hn
  have ha : c.args = #[] := by simpa using hn0
  simp only [execOp, ho, resolve, hc, hf, ha]
  simp [Deferred.ofValue, invoke, callFunc, hfn, hn', hb']
/-- A function's value, or one that has its arguments. -/
def Callee (regs : List RV) (c : Call) (f : Operand) (fid : FuncId) (caps : List Cap) : Prop :=
  Opd regs f (.s (.c (.fn fid caps))) ∨ (c.args.toList = [] ∧ Opd regs f (.s (.c (.bfn fid caps))))
theorem callee_run {c : Call} {f : Operand} {fid : FuncId} {caps : List Cap} {ρ : Operand → Value} {O : Nat → Prop} {w : World} {hs : Names} (ho : o.op = .call c) (hc : c.callee = .value f) (hf : Callee regs c f fid caps)
    (hr : ∀ v, Opd regs f v → RVRel O w v hs (ρ f)) : ∃ arr : Array Value, (∀ fn, P.funcs[fid]? = some fn → fn.body.isSome = true → (fn.name == "runtime.NumGoroutine") = false → (execOp ρ o).run P w = .ok (.enter fid (c.args.map ρ ++ arr)) w) ∧
      arr.size = caps.length ∧ ∀ (i : Nat) (c : Cap) (x : Value), caps[i]? = some c → arr[i]? = some x → CapRel hs c x := by
  rcases hf with hf | ⟨h0, hf⟩
  · obtain ⟨arr, e1, e2, e3⟩ := hr _ hf
    exact ⟨arr, fun fn h1 h2 h3 => run_call ho hc e1 h1 h2 h3 w, e2, e3⟩
  · obtain ⟨arr, e1, e2, e3⟩ := hr _ hf
    exact ⟨arr, fun fn h1 h2 h3 => run_callB ho hc e1 h0 h1 h2 h3 w, e2, e3⟩
theorem good_call {Γ : FuncId → Option FSpec} (hΓ : GOK P Γ) (hbn : ∀ j b, look bs j = some b → j < nx) {c : Call} {f : Operand} {fid : FuncId} {caps : List Cap} {vs : List RV} {k : Kont} (ho : o.op = .call c) (hc : c.callee = .value f)
    (hf : Callee regs c f fid caps) (hl : vs.length = c.args.toList.length) (hv : ∀ (i : Nat) x u, c.args.toList[i]? = some x → vs[i]? = some u → Opd regs x u)
    (h : callK Γ bs nx fid (vs ++ caps.map Cap.rv) k) : ∃ rv rd pre pb nx', k rv rd pre pb nx' ∧ Good P o regs bs nx rv rd pre pb nx' := by
  unfold callK at h
  cases hS : Γ fid with
  | none => rw [hS] at h; exact h.elim
  | some S =>
    rw [hS] at h
    have hM := hΓ fid S hS
    obtain ⟨⟨γ, σ, h⟩⟩ := h
    split at h
    · exact h.elim
    · exact h.elim
    rename_i h0 hpn
    obtain ⟨h1, h2, h3, h4, h5⟩ := h
    have h5 := rvRen_is _ _ h5
    have h5 := blksRen_is _ _ h5
    have h5 := litK_spec _ _ _ _ h5
    obtain ⟨lent, h5, h6, h7⟩ := freezeK_spec _ _ h5
    split at h5
    case h_2 => exact h5.elim
    rename_i hnd hdis
    -- the arguments, as the called function meets them
    have hrun : ∀ (F : Nat → Prop) (hs : Names) (ρ : Operand → Value) (w : World),
        (∀ x ∈ o.op.operands, ∀ v, Opd regs x v → RVRel (Osum F hs (look (lent ++ blksAt bs σ))) w v hs (ρ x)) → WRep F hs (look (lent ++ blksAt bs σ)) w → (∀ j, nx ≤ j → j < nx + ((S.post γ).length - σ.length) → hs j = none) →
        Yield P (Post F hs (look (lent ++ blksAt bs σ)) w (rvR σ nx (S.res γ)) (look ((lent.map fun p => (p.1, froz p.2)) ++ (S.post γ).map fun p => (ren σ nx p.1, blkR σ nx p.2))) nx (nx + ((S.post γ).length - σ.length))) ((execOp ρ o).run P w) := by
      intro F hs ρ w hr hw hfr
      have hfm : f ∈ o.op.operands := by simp [ho, Op.operands, Call.operands, hc]
      obtain ⟨arr, e1, e2, e3⟩ := callee_run (P := P) ho hc hf (hr f hfm)
      obtain ⟨fn, e4, e5, e6⟩ := hM.body
      rw [e1 _ e4 e5 e6]
      refine Calls.mono (call_post hM γ h0 h4 h1 h2 h3 hnd h6 h7 hdis hw hfr hbn (vals := c.args.map ρ ++ arr) ⟨?_, fun i a v ha hv' => ?_⟩) fun e w' ⟨v, he, hp⟩ => ⟨v, (by rw [hpn] at he; exact he), hp⟩
      · simp [e2, hl]
      · by_cases hi : i < vs.length
        · rw [List.getElem?_append_left hi] at ha
          rw [Array.getElem?_append_left (by simp; simp at hl; omega)] at hv'
          simp only [Array.getElem?_map, Option.map_eq_some_iff] at hv'
          obtain ⟨y, hy, rfl⟩ := hv'
          have hy' : c.args.toList[i]? = some y := by simpa using hy
          exact hr y (call_operands ho hy') _ (hv i y a hy' ha)
        · have hsz : (c.args.map ρ).size = vs.length := by simp [hl]
          rw [List.getElem?_append_right (by omega)] at ha
          rw [Array.getElem?_append_right (by omega), hsz] at hv'
          simp only [List.getElem?_map, Option.map_eq_some_iff] at ha
          obtain ⟨c0, h8, rfl⟩ := ha
          have h9 := e3 _ c0 v h8 hv'
          cases c0 with
          | ptr j off => exact h9
          | v y => exact h9
    have hsub : Sub (look (lent ++ blksAt bs σ)) (look bs) := by
      intro j b h
      have hm := look_mem _ j b h
      rcases List.mem_append.1 hm with hm | hm
      · exact (h7 _ hm).1
      · exact (blksAt_spec σ _ hm).2
    have hqn : ∀ p ∈ S.post γ, p.1 < (S.post γ).length := by
      intro p hp
      obtain ⟨c, hc⟩ := look_of_mem (show (p.1, p.2) ∈ S.post γ from hp)
      exact hM.qn γ p.1 c hc
    have hgen : Good P o regs bs nx (rvR σ nx (S.res γ)) [] (lent ++ blksAt bs σ) ((lent.map fun p => (p.1, froz p.2)) ++ (S.post γ).map fun p => (ren σ nx p.1, blkR σ nx p.2)) (nx + ((S.post γ).length - σ.length)) := by
      refine ⟨by simpa using hsub, fun j b hj => ?_, fun j b hj => ?_, by omega, fun F hs ρ w hr hw hfr => by simpa using hrun F hs ρ w (by simpa using hr) (by simpa using hw) hfr⟩
      · simp only [List.append_nil] at hj ⊢
        have hm := look_mem _ j b hj
        rcases List.mem_append.1 hm with hm | hm
        · exact look_of_mem (b := froz b) (List.mem_append.2 (.inl (List.mem_map.2 ⟨(j, b), hm, rfl⟩)))
        · obtain ⟨hσj, hb⟩ := blksAt_spec σ _ hm
          obtain ⟨i, hi, hij⟩ := List.getElem_of_mem hσj
          obtain ⟨c, hc⟩ := hM.full γ i (by omega)
          obtain ⟨c', hc'⟩ := hM.kp γ i c hc
          have hmem := look_mem _ i c' hc'
          have hren : ren σ nx i = j := by
            unfold ren
            rw [if_pos hi, List.getD_eq_getElem?_getD, List.getElem?_eq_getElem hi]
            exact hij
          exact look_of_mem (b := blkR σ nx c') (List.mem_append.2 (.inr (List.mem_map.2 ⟨(i, c'), hmem, by rw [← hren]⟩)))
      · simp only [List.append_nil] at hj ⊢
        have hm := look_mem _ j b hj
        rcases List.mem_append.1 hm with hm | hm
        · obtain ⟨p, hp, he⟩ := List.mem_map.1 hm
          cases he
          exact .inl (look_of_mem (b := p.2) (List.mem_append.2 (.inl hp)))
        · obtain ⟨p, hp, he⟩ := List.mem_map.1 hm
          cases he
          have hp1 := hqn p hp
          by_cases hpm : p.1 < σ.length
          · left
            obtain ⟨c, hc⟩ := hM.full γ p.1 (by omega)
            obtain ⟨j', b', h8, h9, _⟩ := blksEq_spec _ h3 (p.1, c) (look_mem _ _ _ hc)
            have hren : ren σ nx p.1 = j' := by
              unfold ren
              rw [if_pos hpm, List.getD_eq_getElem?_getD, h8]; rfl
            rw [hren]
            exact look_of_mem (List.mem_append.2 (.inr (blksAt_mem σ j' b' (List.mem_of_getElem? h8) h9)))
          · right
            unfold ren
            rw [if_neg hpm]
            omega
    split at h5
    · -- what was lent is lent no longer
      rename_i hpl hpb
      have hpost : S.post γ = [] := by
        cases hq : S.post γ with
        | nil => rfl
        | cons p l => rw [hq] at hpb; simp at hpb
      refine ⟨_, _, _, _, _, h5, ?_⟩
      simp only [hpost, List.length_nil, List.length_nil, Nat.zero_sub, Nat.sub_self, Nat.add_zero] at hgen ⊢
      simp only [blksAt, List.append_nil, List.map_nil] at hrun hgen hsub
      refine ⟨by simpa using hsub, fun j b hj => ⟨b, hj⟩, fun j b hj => .inl ⟨b, hj⟩, Nat.le_refl _, fun F hs ρ w hr hw hfr => ?_⟩
      simp only [List.nil_append] at hr hw ⊢
      have hy := hrun F hs ρ w hr hw fun j hj hj' => hfr j hj (by simp only [hpost, List.length_nil, Nat.zero_sub, Nat.add_zero] at hj'; exact hj')
      have hfm : f ∈ o.op.operands := by simp [ho, Op.operands, Call.operands, hc]
      obtain ⟨arr, e1, e2, e3⟩ := callee_run (P := P) ho hc hf (hr f hfm)
      obtain ⟨fn, e4, e5, e6⟩ := hM.body
      rw [e1 _ e4 e5 e6] at hy ⊢
      have hblk0 : S.blks γ = [] := List.eq_nil_of_length_eq_zero (by rw [← h1]; rfl)
      -- the called function has turned nothing
      have hcore := call_core hM γ h0 h4 h1 h2 h3 hnd h6 (fun p hp => (h7 p hp).1) hdis (by simpa [blksAt] using hw) (vals := c.args.map ρ ++ arr)
        (by
          refine ⟨?_, fun i a v ha hv' => ?_⟩
          · simp [e2, hl]
          · by_cases hi : i < vs.length
            · rw [List.getElem?_append_left hi] at ha
              rw [Array.getElem?_append_left (by simp; simp at hl; omega)] at hv'
              simp only [Array.getElem?_map, Option.map_eq_some_iff] at hv'
              obtain ⟨y, hy, rfl⟩ := hv'
              have hy' : c.args.toList[i]? = some y := by simpa using hy
              simpa [blksAt] using hr y (call_operands ho hy') _ (hv i y a hy' ha)
            · have hsz : (c.args.map ρ).size = vs.length := by simp [hl]
              rw [List.getElem?_append_right (by omega)] at ha
              rw [Array.getElem?_append_right (by omega), hsz] at hv'
              simp only [List.getElem?_map, Option.map_eq_some_iff] at ha
              obtain ⟨c0, h8, rfl⟩ := ha
              have h9 := e3 _ c0 v h8 hv'
              cases c0 with
              | ptr j off => exact h9
              | v y => exact h9)
      obtain ⟨_, hO1, _, _, hcall⟩ := hcore
      refine hcall.mono ?_
      rintro e w' ⟨v, he, hs', g1, g2, g3, g4, g5, g6⟩
      rw [hpn] at he
      have he : e = .returned v := he
      subst he
      have hno : ∀ x, ¬ own (fun i => if i < ([] : List Nat).length then hs (([] : List Nat).getD i 0) else none) (look (S.blks γ)) x := by
        rintro x ⟨i, b, u, hb, _⟩
        rw [hblk0] at hb; simp [look] at hb
      have hfr' : Fr (fun _ => False) w w' := g5.mono fun x _ hx => hno x hx
      refine ⟨v, rfl, hs, plain_rv hpl (rvR_rel (hc := hs') (hs := fun k => if nx ≤ k then hs' (k - nx) else none) (fun j h hj => ?_) _ g1), ⟨fun j b hj => ?_, hw.sep, fun x hx => Nat.lt_of_lt_of_le (hw.lt x hx) hfr'.size, hw.apart⟩,
        fun _ _ h => h, fun _ _ => rfl, hfr'.mono (fun _ _ h => h.elim), fun x hx => .inl hx⟩
      · unfold ren
        simp only [List.length_nil, Nat.not_lt_zero, if_false, Nat.sub_zero]
        rw [if_pos (by omega), show nx + j - nx = j by omega]
        exact hj
      · obtain ⟨u, hu, hr'⟩ := hw.blk j b hj
        exact ⟨u, hu, BlkRel.mono hfr'.size (fun x hx _ => hfr'.block x hx id) (fun x hx => .inl hx) (fun _ _ h => h) (fun x hx => hfr'.block x (own_lt hw ⟨j, b, u, hj, hu, hx⟩) id) hr'⟩
    · exact ⟨_, _, _, _, _, h5, hgen⟩
/-- A call that panics. -/
structure GoodP (P : Program) (o : Oper) (regs : List RV) (bs : List (Nat × Blk)) (nx : Nat) (ch : List PanicEntry) (pre pb : List (Nat × Blk)) (nx' : Nat) : Prop where
  call : ∃ c, o.op = .call c
  sub : Sub (look pre) (look bs)
  dom : ∀ j b, look pre j = some b → ∃ b', look pb j = some b'
  new : ∀ j b, look pb j = some b → (∃ b0, look pre j = some b0) ∨ (nx ≤ j ∧ j < nx')
  le : nx ≤ nx'
  run : ∀ (F : Nat → Prop) (hs : Names) (ρ : Operand → Value) (w : World),
    (∀ x ∈ o.op.operands, ∀ v, Opd regs x v → RVRel (Osum F hs (look pre)) w v hs (ρ x)) →
    WRep F hs (look pre) w → (∀ j, nx ≤ j → j < nx' → hs j = none) →
    ∃ f args, (execOp ρ o).run P w = .ok (.enter f args) w ∧ Calls P f args w fun e w' => e = .panicked ch ∧ ∃ rv v, Post F hs (look pre) w rv (look pb) nx nx' v w'
theorem good_callP {Γ : FuncId → Option FSpec} (hΓ : GOK P Γ) (hbn : ∀ j b, look bs j = some b → j < nx) {c : Call} {f : Operand} {fid : FuncId} {caps : List Cap} {vs : List RV} {k : List PanicEntry → List (Nat × Blk) → Nat → Prop} (ho : o.op = .call c) (hc : c.callee = .value f)
    (hf : Callee regs c f fid caps) (hl : vs.length = c.args.toList.length) (hv : ∀ (i : Nat) x u, c.args.toList[i]? = some x → vs[i]? = some u → Opd regs x u)
    (h : panCallK Γ bs nx fid (vs ++ caps.map Cap.rv) k) : ∃ ch pre pb bs' nx', k ch bs' nx' ∧ (∀ i, look bs' i = look (pb ++ bs) i) ∧ GoodP P o regs bs nx ch pre pb nx' := by
  unfold panCallK at h
  cases hS : Γ fid with
  | none => rw [hS] at h; exact h.elim
  | some S =>
    rw [hS] at h
    have hM := hΓ fid S hS
    obtain ⟨⟨γ, σ, h⟩⟩ := h
    split at h
    · exact h.elim
    · exact h.elim
    rename_i ch h0 hpn
    obtain ⟨h1, h2, h3, h4, h5⟩ := h
    have h5 := blksRen_is _ _ h5
    have h5 := litK_spec _ _ _ _ h5
    obtain ⟨lent, h5, h6, h7⟩ := freezeK_spec _ _ h5
    split at h5
    case h_2 => exact h5.elim
    rename_i hnd hdis
    obtain ⟨bs', h5, hbs'⟩ := putsK_spec _ _ _ h5
    have hrun : ∀ (F : Nat → Prop) (hs : Names) (ρ : Operand → Value) (w : World),
        (∀ x ∈ o.op.operands, ∀ v, Opd regs x v → RVRel (Osum F hs (look (lent ++ blksAt bs σ))) w v hs (ρ x)) → WRep F hs (look (lent ++ blksAt bs σ)) w → (∀ j, nx ≤ j → j < nx + ((S.post γ).length - σ.length) → hs j = none) →
        ∃ f args, (execOp ρ o).run P w = .ok (.enter f args) w ∧ Calls P f args w fun e w' => e = .panicked ch ∧ ∃ rv v, Post F hs (look (lent ++ blksAt bs σ)) w rv (look ((lent.map fun p => (p.1, froz p.2)) ++ (S.post γ).map fun p => (ren σ nx p.1, blkR σ nx p.2))) nx (nx + ((S.post γ).length - σ.length)) v w' := by
      intro F hs ρ w hr hw hfr
      have hfm : f ∈ o.op.operands := by simp [ho, Op.operands, Call.operands, hc]
      obtain ⟨arr, e1, e2, e3⟩ := callee_run (P := P) ho hc hf (hr f hfm)
      obtain ⟨fn, e4, e5, e6⟩ := hM.body
      rw [e1 _ e4 e5 e6]
      refine ⟨_, _, rfl, Calls.mono (call_post hM γ h0 h4 h1 h2 h3 hnd h6 h7 hdis hw hfr hbn (vals := c.args.map ρ ++ arr) ⟨?_, fun i a v ha hv' => ?_⟩) fun e w' ⟨v, he, hp⟩ => ⟨(by rw [hpn] at he; exact he), _, v, hp⟩⟩
      · simp [e2, hl]
      · by_cases hi : i < vs.length
        · rw [List.getElem?_append_left hi] at ha
          rw [Array.getElem?_append_left (by simp; simp at hl; omega)] at hv'
          simp only [Array.getElem?_map, Option.map_eq_some_iff] at hv'
          obtain ⟨y, hy, rfl⟩ := hv'
          have hy' : c.args.toList[i]? = some y := by simpa using hy
          exact hr y (call_operands ho hy') _ (hv i y a hy' ha)
        · have hsz : (c.args.map ρ).size = vs.length := by simp [hl]
          rw [List.getElem?_append_right (by omega)] at ha
          rw [Array.getElem?_append_right (by omega), hsz] at hv'
          simp only [List.getElem?_map, Option.map_eq_some_iff] at ha
          obtain ⟨c0, h8, rfl⟩ := ha
          have h9 := e3 _ c0 v h8 hv'
          cases c0 with
          | ptr j off => exact h9
          | v y => exact h9
    have hsub : Sub (look (lent ++ blksAt bs σ)) (look bs) := by
      intro j b h
      have hm := look_mem _ j b h
      rcases List.mem_append.1 hm with hm | hm
      · exact (h7 _ hm).1
      · exact (blksAt_spec σ _ hm).2
    have hqn : ∀ p ∈ S.post γ, p.1 < (S.post γ).length := by
      intro p hp
      obtain ⟨c, hc⟩ := look_of_mem (show (p.1, p.2) ∈ S.post γ from hp)
      exact hM.qn γ p.1 c hc
    refine ⟨ch, _, _, bs', _, h5, hbs', ⟨c, ho⟩, hsub, fun j b hj => ?_, fun j b hj => ?_, by omega, hrun⟩
    · have hm := look_mem _ j b hj
      rcases List.mem_append.1 hm with hm | hm
      · exact look_of_mem (b := froz b) (List.mem_append.2 (.inl (List.mem_map.2 ⟨(j, b), hm, rfl⟩)))
      · obtain ⟨hσj, hb⟩ := blksAt_spec σ _ hm
        obtain ⟨i, hi, hij⟩ := List.getElem_of_mem hσj
        obtain ⟨c, hc⟩ := hM.full γ i (by omega)
        obtain ⟨c', hc'⟩ := hM.kp γ i c hc
        have hmem := look_mem _ i c' hc'
        have hren : ren σ nx i = j := by
          unfold ren
          rw [if_pos hi, List.getD_eq_getElem?_getD, List.getElem?_eq_getElem hi]
          exact hij
        exact look_of_mem (b := blkR σ nx c') (List.mem_append.2 (.inr (List.mem_map.2 ⟨(i, c'), hmem, by rw [← hren]⟩)))
    · have hm := look_mem _ j b hj
      rcases List.mem_append.1 hm with hm | hm
      · obtain ⟨p, hp, he⟩ := List.mem_map.1 hm
        cases he
        exact .inl (look_of_mem (b := p.2) (List.mem_append.2 (.inl hp)))
      · obtain ⟨p, hp, he⟩ := List.mem_map.1 hm
        cases he
        have hp1 := hqn p hp
        by_cases hpm : p.1 < σ.length
        · left
          obtain ⟨c, hc⟩ := hM.full γ p.1 (by omega)
          obtain ⟨j', b', h8, h9, _⟩ := blksEq_spec _ h3 (p.1, c) (look_mem _ _ _ hc)
          have hren : ren σ nx p.1 = j' := by
            unfold ren
            rw [if_pos hpm, List.getD_eq_getElem?_getD, h8]; rfl
          rw [hren]
          exact look_of_mem (List.mem_append.2 (.inr (blksAt_mem σ j' b' (List.mem_of_getElem? h8) h9)))
        · right
          unfold ren
          rw [if_neg hpm]
          omega
theorem panOpK_spec {Γ : FuncId → Option FSpec} (hΓ : GOK P Γ) (hbn : ∀ j b, look bs j = some b → j < nx) {k : List PanicEntry → List (Nat × Blk) → Nat → Prop} (h : panOpK Γ o regs bs nx k) :
    o.guard = none ∧ ∃ ch pre pb bs' nx', k ch bs' nx' ∧ (∀ i, look bs' i = look (pb ++ bs) i) ∧ GoodP P o regs bs nx ch pre pb nx' := by
  unfold panOpK at h
  split at h
  case h_2 => exact h.elim
  rename_i c hg ho
  split at h
  case h_2 => exact h.elim
  rename_i f hc
  obtain ⟨vf, h1, h⟩ := opK_spec _ _ _ h
  obtain ⟨vs, h, h2, h3⟩ := opsK_spec _ _ _ h
  split at h
  case h_3 => exact h.elim
  · exact ⟨hg, good_callP hΓ hbn ho hc (.inl h1) h2 h3 h⟩
  · split at h
    · rename_i h0
      exact ⟨hg, good_callP hΓ hbn ho hc (.inr ⟨h0, h1⟩) h2 h3 h⟩
    · exact h.elim
end
end Go.Eng
namespace Go.Eng
open Go
section
variable {P : Program} {o : Oper} {regs : List RV} {bs : List (Nat × Blk)} {nx : Nat} {rd : List (Nat × Blk)}
theorem ints_agg {O : Nat → Prop} {w : World} {hs : Names} {l : List Cell} {xs : List Int} {n : Nat} (hl : l.length = n) (hx : xs.length = n) (h : ∀ t, t < n → l[0 + t]? = some (.v (.int .i64 (xs.getD t 0)))) {u : Value}
    (hr : RVRel O w (.s (.agg l)) hs u) : u = .agg (xs.map (Value.int .i64)).toArray := by
  obtain ⟨cs, rfl, h2, h3⟩ := hr
  congr 1
  apply Array.ext
  · simp [h2, hl, hx]
  · intro i h4 h5
    have h6 : i < n := by omega
    have e1 := h i h6
    rw [Nat.zero_add] at e1
    have := h3 i _ cs[i] e1 (Array.getElem?_eq_getElem h4)
    rw [this.1]
    simp [List.getD_eq_getElem?_getD, List.getElem?_eq_getElem (by omega : i < xs.length)]
theorem good_index {x ix : Operand} {t e : TypeId} {len : Nat} {q : IntKind} {i : Int} {l : List Cell} {xs : List Int} {inf : TypeInfo} (ho : o.op = .index t x ix) (ht : P.underlying t = some (.array len e)) (he : isAggT P e = some false) (hi : P.info? e = some inf)
    (hs : inf.size = 1) (hx : Opd regs x (.s (.agg l))) (hix : Opd regs ix (.s (.c (.v (.int q i))))) (hb : 0 ≤ i ∧ i < len) (hll : l.length = len) (hxl : xs.length = len)
    (hxs : ∀ t, t < len → l[0 + t]? = some (.v (.int .i64 (xs.getD t 0)))) : Good P o regs bs nx (.s (.c (.v (.int .i64 (xs.getD i.toNat 0))))) [] [] [] nx :=
  good_pure (sub_nil _) fun F hs' ρ w hr hw => by
    have e1 := ints_agg hll hxl hxs (hr x (by simp [ho, Op.operands]) _ hx)
    have e2 := rel_v (hr ix (by simp [ho, Op.operands]) _ hix)
    refine ⟨_, ?_, rfl, rfl⟩
    have hlt : i.toNat < xs.length := by omega
    have hget : (xs.map (Value.int .i64)).toArray[i.toNat]? = some (.int .i64 (xs.getD i.toNat 0)) := by
      simp [List.getD_eq_getElem?_getD, List.getElem?_eq_getElem hlt]
    simp only [execOp, ho, e1, e2]
    simp [Instr.index, asIntOf, run_underlying ht, hb, part, run_isAgg he, sizeOf, typeInfo, hi, hs, hget, List.getD_eq_getElem?_getD, List.getElem?_eq_getElem hlt]
/-! ### Numbers in a struct or an array, held against others -/
theorem beqL_iff : ∀ (l r : List Int), beqL l r = true ↔ l = r
  | [], [] => by simp [beqL]
  | x :: l, y :: r => by simp [beqL, beqL_iff l r]
  | [], _ :: _ => by simp [beqL]
  | _ :: _, [] => by simp [beqL]
theorem beqL_ff (l r : List Int) : beqL l r = false ↔ ¬ l = r := by
  rw [← beqL_iff]; simp
theorem aggOk_spec {P : Program} {t : TypeId} {n : Nat} (h : aggOk P t n = true) : eqT P 8 t = some n ∧ P.eqGuardType P.depth t = false := by
  unfold aggOk at h
  rw [Bool.and_eq_true] at h
  obtain ⟨h1, h2⟩ := h
  refine ⟨?_, by simpa using h2⟩
  split at h1
  · rename_i m hm
    rw [hm, Nat.eq_of_beq_eq_true h1]
  · cases h1
theorem beqL_dec (l r : List Int) : beqL l r = decide (l = r) := by
  rw [Bool.eq_iff_iff, beqL_iff]; simp
/-- The value of a type that is numbers. -/
def valI (P : Program) (t : TypeId) (xs : List Int) : Value :=
  match P.underlying t with
  | some (.int _) => .int .i64 (xs.getD 0 0)
  | _ => .agg (xs.map (Value.int .i64)).toArray
theorem eqT_info {d : Nat} {t : TypeId} {k : Nat} (h : eqT P d t = some k) : ∃ inf, P.info? t = some inf ∧ inf.size = k := by
  cases d with
  | zero => cases h
  | succ d =>
    unfold eqT at h
    cases hi : P.info? t with
    | none => rw [hi] at h; cases h
    | some inf =>
      rw [hi] at h
      refine ⟨inf, rfl, ?_⟩
      simp only at h
      split at h
      · split at h
        · cases h; assumption
        · cases h
      · split at h
        · split at h
          · cases h; assumption
          · cases h
        · cases h
      · split at h
        · cases h
        · split at h
          · split at h
            · cases h; assumption
            · cases h
          · cases h
      · cases h
theorem part_ints {d : Nat} {t : TypeId} {k : Nat} (h : eqT P d t = some k) (zs : List Int) (off : Nat) (hl : off + k ≤ zs.length) (w : World) :
    (part t (zs.map (Value.int .i64)).toArray off).run P w = .ok (valI P t ((zs.drop off).take k)) w := by
  obtain ⟨inf, hi, hk⟩ := eqT_info h
  cases d with
  | zero => cases h
  | succ d =>
    unfold eqT at h
    rw [hi] at h
    simp only at h
    have hagg : ∀ b, isAggT P t = some b → (isAgg t).run P w = .ok b w := fun b hb => run_isAgg hb w
    have hext : ((zs.map (Value.int .i64)).toArray.extract off (off + inf.size)) = (((zs.drop off).take k).map (Value.int .i64)).toArray := by
      rw [hk]
      apply Array.toList_inj.1
      simp [List.map_take, List.map_drop]
    split at h
    · rename_i ht
      split at h
      · cases h
        have hlt : off < zs.length := by omega
        have hb : isAggT P t = some false := by simp [isAggT, ht]
        simp only [part, Sem.run_bind, hagg _ hb, Result.andThen_ok, valI, ht]
        simp [List.getElem?_eq_getElem hlt, List.getD_eq_getElem?_getD]
      · cases h
    · rename_i n e ht
      have hb : isAggT P t = some true := by simp [isAggT, ht]
      simp only [part, Sem.run_bind, hagg _ hb, Result.andThen_ok, valI, ht, if_true, run_sizeOf hi, Sem.run_pure, hext]
    · rename_i fs ht
      have hb : isAggT P t = some true := by simp [isAggT, ht]
      simp only [part, Sem.run_bind, hagg _ hb, Result.andThen_ok, valI, ht, if_true, run_sizeOf hi, Sem.run_pure, hext]
    · cases h
theorem take_eq_split {α : Type} [DecidableEq α] {xs ys : List α} {a k : Nat} : (xs.take (a + k) = ys.take (a + k)) ↔ (xs.take a = ys.take a ∧ (xs.drop a).take k = (ys.drop a).take k) ∨ (xs.take (a + k) = ys.take (a + k)) := by
  constructor
  · exact .inr
  · rintro (⟨h1, h2⟩ | h)
    · rw [List.take_add, List.take_add, h1, h2]
    · exact h
def fieldsT (P : Program) (d : Nat) (a : Option Nat) (f : Field) : Option Nat :=
  match a with
  | none => none
  | some off => if f.name = "_" ∨ f.offset ≠ off then none else match eqT P d f.type with
    | some k => some (off + k)
    | none => none
theorem fieldsT_none (d : Nat) : ∀ fs : List Field, fs.foldl (fieldsT P d) none = none
  | [] => rfl
  | f :: fs => fieldsT_none d fs
theorem run_eqFields {d m : Nat} (ih : ∀ (t : TypeId) (k : Nat), eqT P d t = some k → ∀ (m : Nat) (xs ys : List Int), xs.length = k → ys.length = k → ∀ w : World,
      (Op.equalIn (d + m) t (valI P t xs) (valI P t ys)).run P w = .ok (decide (xs = ys)) w) (w : World) : ∀ (fs : List Field) (off k : Nat) (xs ys : List Int), fs.foldl (fieldsT P d) (some off) = some k → k ≤ xs.length → k ≤ ys.length → xs.take off = ys.take off →
    off ≤ k ∧ (Op.eqFields (d + m) (xs.map (Value.int .i64)).toArray (ys.map (Value.int .i64)).toArray fs).run P w = .ok (decide (xs.take k = ys.take k)) w
  | [], off, k, xs, ys, h, h1, h2, he => by
    cases h
    exact ⟨Nat.le_refl _, by simp [Op.eqFields, he]⟩
  | f :: fs, off, k, xs, ys, h, h1, h2, he => by
    rw [List.foldl_cons] at h
    cases hf : fieldsT P d (some off) f with
    | none => rw [hf, fieldsT_none] at h; cases h
    | some off2 =>
      rw [hf] at h
      simp only [fieldsT] at hf
      split at hf
      · cases hf
      rename_i hne
      have hname : f.name ≠ "_" := fun e => hne (.inl e)
      have hoff : f.offset = off := Decidable.byContradiction fun e => hne (.inr e)
      cases hk : eqT P d f.type with
      | none => rw [hk] at hf; cases hf
      | some kf =>
        rw [hk] at hf
        cases hf
        by_cases e1 : (xs.drop off).take kf = (ys.drop off).take kf
        · obtain ⟨g1, g2⟩ := run_eqFields ih w fs (off + kf) k xs ys h h1 h2 (by rw [List.take_add, List.take_add, he, e1])
          have hi := ih f.type kf hk m ((xs.drop off).take kf) ((ys.drop off).take kf) (by simp; omega) (by simp; omega) w
          rw [decide_eq_true e1] at hi
          refine ⟨by omega, ?_⟩
          simp only [Op.eqFields, hname, ne_eq, not_false_eq_true, if_true, Sem.run_bind, hoff, part_ints hk xs off (by omega) w, part_ints hk ys off (by omega) w, Result.andThen_ok, hi, Bool.not_true, Bool.false_eq_true, if_false]
          exact g2
        · have hle : off + kf ≤ k := by
            have : ∀ (fs : List Field) (a : Nat), fs.foldl (fieldsT P d) (some a) = some k → a ≤ k := by
              intro fs
              induction fs with
              | nil => intro a ha; cases ha; exact Nat.le_refl _
              | cons g gs ihg =>
                intro a ha
                rw [List.foldl_cons] at ha
                cases hg : fieldsT P d (some a) g with
                | none => rw [hg, fieldsT_none] at ha; cases ha
                | some b =>
                  rw [hg] at ha
                  have := ihg b ha
                  simp only [fieldsT] at hg
                  split at hg
                  · cases hg
                  · split at hg
                    · cases hg; omega
                    · cases hg
            exact this fs _ h
          have hne2 : xs.take k ≠ ys.take k := by
            intro e
            apply e1
            have : ∀ zs : List Int, (zs.drop off).take kf = ((zs.take k).drop off).take kf := by
              intro zs
              rw [List.drop_take, List.take_take, Nat.min_eq_left (by omega)]
            rw [this xs, this ys, e]
          have hi := ih f.type kf hk m ((xs.drop off).take kf) ((ys.drop off).take kf) (by simp; omega) (by simp; omega) w
          rw [decide_eq_false e1] at hi
          refine ⟨by omega, ?_⟩
          simp only [Op.eqFields, hname, ne_eq, not_false_eq_true, if_true, Sem.run_bind, hoff, part_ints hk xs off (by omega) w, part_ints hk ys off (by omega) w, Result.andThen_ok, hi, Bool.not_false, if_true, Sem.run_pure, hne2, decide_false]
theorem run_eqT : ∀ (d : Nat) (t : TypeId) (k : Nat), eqT P d t = some k → ∀ (m : Nat) (xs ys : List Int), xs.length = k → ys.length = k → ∀ w : World,
    (Op.equalIn (d + m) t (valI P t xs) (valI P t ys)).run P w = .ok (decide (xs = ys)) w := by
  intro d
  induction d with
  | zero => intro t k h; cases h
  | succ d ih =>
    intro t k h m xs ys hx hy w
    unfold eqT at h
    obtain ⟨inf, hi, hk⟩ : ∃ inf, P.info? t = some inf ∧ True := by
      cases hi : P.info? t with
      | none => rw [hi] at h; cases h
      | some inf => exact ⟨inf, rfl, trivial⟩
    rw [hi] at h
    simp only at h
    rw [show d + 1 + m = (d + m) + 1 by omega]
    split at h
    · rename_i ht
      split at h
      · cases h
        match xs, ys, hx, hy with
        | [a], [b], _, _ =>
          simp only [valI, ht]
          rw [run_equalIn_int w (d + m) t .i64 .i64 _ _ ht]
          simp
          by_cases e : a = b <;> simp [e]
      · cases h
    · rename_i n e ht
      split at h
      · rename_i k' he
        split at h
        · cases h
          simp only [valI, ht]
          obtain ⟨inf', hi', hs'⟩ := eqT_info he
          have key : ∀ (r s : Nat), s + r = n → xs.take (s * k') = ys.take (s * k') →
              (forIn (m := Sem) (List.range' s r) ((none, ()) : Option Bool × Unit) fun i _ => do
                let a ← part e (xs.map (Value.int .i64)).toArray (i * inf'.size)
                let b ← part e (ys.map (Value.int .i64)).toArray (i * inf'.size)
                let r ← Op.equalIn (d + m) e a b
                if !r then pure (ForInStep.done (some false, ())) else pure (ForInStep.yield (none, ()))).run P w = .ok (if xs = ys then (none, ()) else (some false, ())) w := by
            intro r
            induction r with
            | zero =>
              intro s hs heq
              have hs : s = n := by omega
              subst hs
              have : xs = ys := by rw [← List.take_of_length_le (Nat.le_of_eq hx), ← List.take_of_length_le (Nat.le_of_eq hy)]; exact heq
              simp [this]
            | succ r ihr =>
              intro s hs heq
              have hle : s * k' + k' ≤ n * k' := by
                calc s * k' + k' = (s + 1) * k' := by rw [Nat.add_mul, Nat.one_mul]
                  _ ≤ n * k' := Nat.mul_le_mul_right _ (by omega)
              rw [List.range'_succ, List.forIn_cons]
              simp only [Sem.run_bind, hs', part_ints he xs (s * k') (by omega) w, part_ints he ys (s * k') (by omega) w, Result.andThen_ok,
                ih e k' he m ((xs.drop (s * k')).take k') ((ys.drop (s * k')).take k') (by simp; omega) (by simp; omega) w]
              by_cases e1 : (xs.drop (s * k')).take k' = (ys.drop (s * k')).take k'
              · simp only [e1, decide_true, Bool.not_true, Bool.false_eq_true, if_false, Sem.run_pure, Result.andThen_ok]
                have := ihr (s + 1) (by omega) (by rw [Nat.add_mul, Nat.one_mul, List.take_add, List.take_add, heq, e1])
                simp only [hs'] at this
                exact this
              · have hne : xs ≠ ys := fun h => e1 (by rw [h])
                simp only [e1, decide_false, Bool.not_false, if_true, Sem.run_pure, Result.andThen_ok, hne, if_false]
          have := key n 0 (by omega) (by simp)
          simp only [Op.equalIn, Sem.run_bind, run_underlying ht, Result.andThen_ok, run_sizeOf hi']
          simp only [Std.Legacy.Range.forIn_eq_forIn_range', Std.Legacy.Range.size]
          simp only [Nat.sub_zero, Nat.add_sub_cancel, Nat.div_one]
          rw [this]
          by_cases e1 : xs = ys
          · simp [e1]
          · simp [e1]
        · cases h
      · cases h
    · rename_i fs ht
      split at h
      · cases h
      rename_i hst
      have hst : P.stoodInHeld t = false := by simpa using hst
      split at h
      · rename_i k' hfold
        split at h
        · cases h
          simp only [valI, ht]
          have hfo : P.fieldsOf t = fs := by simp [Program.fieldsOf, ht]
          rw [run_equalIn_struct w (d + m) t _ _ (by rw [hfo]; exact ht) hst, hfo]
          have hfold' : fs.toList.foldl (fieldsT P d) (some 0) = some k := hfold
          rw [(run_eqFields (m := m) ih w fs.toList 0 k xs ys hfold' (by omega) (by omega) rfl).2]
          rw [List.take_of_length_le (by omega), List.take_of_length_le (by omega)]
        · cases h
      · cases h
    · cases h
/-- Two of them held against one another. -/
theorem good_eqAgg {op : BinOp} {x y : Operand} {t t' : TypeId} {l r : List Cell} {xs ys : List Int} {k : Nat} (ho : o.op = .binOp op t x y t') (hk : eqT P 8 t = some k) (hg : P.eqGuardType P.depth t = false) (hag : isAggT P t = some true)
    (hop : op = .eql ∨ op = .neq) (h1 : Opd regs x (.s (.agg l))) (h2 : Opd regs y (.s (.agg r))) (hl : l.length = k) (hr' : r.length = k) (hxl : xs.length = k) (hyl : ys.length = k)
    (hxs : ∀ t, t < k → l[0 + t]? = some (.v (.int .i64 (xs.getD t 0)))) (hys : ∀ t, t < k → r[0 + t]? = some (.v (.int .i64 (ys.getD t 0)))) :
    Good P o regs bs nx (.s (.c (.v (.bool (if op = .eql then beqL xs ys else !beqL xs ys))))) [] [] [] nx :=
  good_pure (sub_nil _) fun F hs ρ w hr hw => by
    have e1 := ints_agg hl hxl hxs (hr x (by simp [ho, Op.operands]) _ h1)
    have e2 := ints_agg hr' hyl hys (hr y (by simp [ho, Op.operands]) _ h2)
    have hv : ∀ zs : List Int, valI P t zs = .agg (zs.map (Value.int .i64)).toArray := by
      intro zs
      unfold valI
      unfold isAggT at hag
      split at hag <;> simp_all
    have hrun : (Op.equalIn 10000 t (.agg (xs.map (Value.int .i64)).toArray) (.agg (ys.map (Value.int .i64)).toArray)).run P w = .ok (decide (xs = ys)) w := by
      have := run_eqT 8 t k hk 9992 xs ys hxl hyl w
      rw [hv, hv] at this
      exact this
    refine ⟨_, ?_, rfl, rfl⟩
    simp only [execOp, ho, e1, e2]
    rw [Sem.run_bind, Sem.run_bind, run_eqGuard_agg w op t x y _ _ hg]
    rcases hop with rfl | rfl
    · simp only [Result.andThen_ok, run_eql_struct, hrun, beqL_dec, if_true]
      rfl
    · simp only [Result.andThen_ok, run_neq_struct, hrun, beqL_dec]
      rfl
theorem good_nilcmp {op : BinOp} {x y : Operand} {t e t' : TypeId} {n q : Nat} {tt : Bool} {g : Nat → Nat → Cell} {k : RV → Prop} (ho : o.op = .binOp op t x y t') (ht : P.underlying t = some (.slice e)) (h1 : Opd regs x (.s (.c (.ro n q tt g))))
    (h2 : Opd regs y (.s (.c (.v (.slice none 0 0))))) (h : nilcmpK op n k) : ∃ rv, k rv ∧ Good P o regs bs nx rv [] [] [] nx := by
  have hrun : ∀ (a : Option Addr) (c : Nat) (w : World), (Op.equal t (.slice a n c) (.slice none 0 0)).run P w = .ok a.isNone w := by
    intro a c w
    have : ∀ d, (Op.equalIn (d + 1) t (.slice a n c) (.slice none 0 0)).run P w = .ok a.isNone w := by
      intro d
      cases a with
      | none => simp [Op.equalIn, run_underlying ht]
      | some a => simp [Op.equalIn, run_underlying ht]
    exact this 9999
  have key : ∀ (rv : RV), (op = .eql ∨ op = .neq) → (∀ (b : Bool) (O : Nat → Prop) (w : World) (hs : Names), (0 < n → b = false) → RVRel O w rv hs (.bool (if op = .eql then b else !b))) → Good P o regs bs nx rv [] [] [] nx := by
    intro rv hop hrv
    refine good_pure (sub_nil _) fun F hs ρ w hr hw => ?_
    obtain ⟨a, c, e1, e2, e3, e4, e5⟩ := hr x (by simp [ho, Op.operands]) _ h1
    have e6 := rel_v (hr y (by simp [ho, Op.operands]) _ h2)
    refine ⟨.bool (if op = .eql then a.isNone else !a.isNone), ?_, hrv a.isNone _ _ _ fun hn => ?_⟩
    · rcases hop with rfl | rfl
      · simp [execOp, ho, e1, e6, eqGuard, binOp, hrun]
      · simp [execOp, ho, e1, e6, eqGuard, binOp, hrun]
    · obtain ⟨b, off, rfl, _⟩ := e5 hn
      rfl
  unfold nilcmpK at h
  split at h
  · rcases Nat.eq_zero_or_pos n with hn | hn
    · exact ⟨_, h.2 hn, key _ (.inl rfl) fun b O w hs _ => ⟨_, rfl⟩⟩
    · exact ⟨_, h.1 hn, key _ (.inl rfl) fun b O w hs hb => by rw [hb hn]; exact ⟨rfl, rfl⟩⟩
  · rcases Nat.eq_zero_or_pos n with hn | hn
    · exact ⟨_, h.2 hn, key _ (.inr rfl) fun b O w hs _ => ⟨_, rfl⟩⟩
    · exact ⟨_, h.1 hn, key _ (.inr rfl) fun b O w hs hb => by rw [hb hn]; exact ⟨rfl, rfl⟩⟩
  · exact h.elim
theorem good_flt {op : BinOp} {x y : Operand} {t t' : TypeId} {a b : Nat} {k : RV → Prop} (ho : o.op = .binOp op t x y t') (h1 : Opd regs x (.s (.c (.v (.float .f64 a))))) (h2 : Opd regs y (.s (.c (.v (.float .f64 b)))))
    (h : fltK op a b k) : ∃ rv, k rv ∧ Good P o regs bs nx rv [] [] [] nx := by
  have key : ∀ (v : Value) (hv : ∀ (O : Nat → Prop) (w : World) (hs : Names), RVRel O w (.s (.c (.v v))) hs v), (∀ w : World, (Go.binOp op t (.float .f64 a) (.float .f64 b)).run P w = .ok v w) → (∀ w : World, (eqGuard op t x y (.float .f64 a) (.float .f64 b)).run P w = .ok () w) → Good P o regs bs nx (.s (.c (.v v))) [] [] [] nx := by
    intro v hv hrun hgd
    refine good_pure (sub_nil _) fun F hs ρ w hr hw => ?_
    have e1 := rel_v (hr x (by simp [ho, Op.operands]) _ h1)
    have e2 := rel_v (hr y (by simp [ho, Op.operands]) _ h2)
    refine ⟨v, ?_, hv _ _ _⟩
    simp only [execOp, ho, e1, e2]
    rw [Sem.run_bind, Sem.run_bind, hgd]
    simp only [Result.andThen_ok, hrun]
    rfl
  have hg : ∀ w : World, (eqGuard op t x y (.float .f64 a) (.float .f64 b)).run P w = .ok () w := by
    intro w
    unfold eqGuard
    split <;> rfl
  have hf : FloatKind.f64.format = Ieee.double := rfl
  unfold fltK at h
  split at h
  · refine ⟨_, h, key _ (fun _ _ _ => ⟨rfl, rfl⟩) (fun w => ?_) hg⟩; simp [binOp, Op.floatCmp, hf, fEq]
  · refine ⟨_, h, key _ (fun _ _ _ => ⟨rfl, rfl⟩) (fun w => ?_) hg⟩; simp [binOp, Op.floatCmp, hf, fEq]; rfl
  · refine ⟨_, h, key _ (fun _ _ _ => ⟨rfl, rfl⟩) (fun w => ?_) hg⟩; simp [binOp, Op.floatCmp, hf, fLt]
  · refine ⟨_, h, key _ (fun _ _ _ => ⟨rfl, rfl⟩) (fun w => ?_) hg⟩; simp [binOp, Op.floatCmp, hf, fGt]
  · refine ⟨_, h, key _ (fun _ _ _ => ⟨rfl, rfl⟩) (fun w => ?_) hg⟩; simp [binOp, Op.floatCmp, hf, fLt, fEq]
  · refine ⟨_, h, key _ (fun _ _ _ => ⟨rfl, rfl⟩) (fun w => ?_) hg⟩; simp [binOp, Op.floatCmp, hf, fGt, fEq]
  · obtain ⟨hk, h⟩ := h
    refine ⟨_, h, key _ (fun _ _ _ => ⟨rfl, rfl⟩) (fun w => ?_) hg⟩
    unfold fAddOk at hk
    obtain ⟨r, hr⟩ := Option.isSome_iff_exists.1 hk
    simp [binOp, Op.floatArith, hf, fAdd, hr]
  · obtain ⟨hk, h⟩ := h
    refine ⟨_, h, key _ (fun _ _ _ => ⟨rfl, rfl⟩) (fun w => ?_) hg⟩
    unfold fDivOk at hk
    obtain ⟨r, hr⟩ := Option.isSome_iff_exists.1 hk
    simp [binOp, Op.floatArith, hf, fDiv, hr]
  · exact h.elim
theorem good_str {op : BinOp} {x y : Operand} {t t' : TypeId} {a b : ByteArray} {k : RV → Prop} (ho : o.op = .binOp op t x y t') (h1 : Opd regs x (.s (.c (.v (.string a))))) (h2 : Opd regs y (.s (.c (.v (.string b)))))
    (h : strK op a b k) : ∃ rv, k rv ∧ Good P o regs bs nx rv [] [] [] nx := by
  have key : ∀ (v : Value) (hv : ∀ (O : Nat → Prop) (w : World) (hs : Names), RVRel O w (.s (.c (.v v))) hs v), (∀ w : World, (Go.binOp op t (.string a) (.string b)).run P w = .ok v w) → (∀ w : World, (eqGuard op t x y (.string a) (.string b)).run P w = .ok () w) → Good P o regs bs nx (.s (.c (.v v))) [] [] [] nx := by
    intro v hv hrun hgd
    refine good_pure (sub_nil _) fun F hs ρ w hr hw => ?_
    have e1 := rel_v (hr x (by simp [ho, Op.operands]) _ h1)
    have e2 := rel_v (hr y (by simp [ho, Op.operands]) _ h2)
    refine ⟨v, ?_, hv _ _ _⟩
    simp only [execOp, ho, e1, e2]
    rw [Sem.run_bind, Sem.run_bind, hgd]
    simp only [Result.andThen_ok, hrun]
    rfl
  have hg : ∀ w : World, (eqGuard op t x y (.string a) (.string b)).run P w = .ok () w := by
    intro w
    unfold eqGuard
    split <;> rfl
  unfold strK at h
  split at h
  · refine ⟨_, h, key _ (fun _ _ _ => ⟨rfl, rfl⟩) (fun w => ?_) hg⟩; unfold strEq; simp [binOp, Op.stringOp]
  · refine ⟨_, h, key _ (fun _ _ _ => ⟨rfl, rfl⟩) (fun w => ?_) hg⟩; unfold strEq; simp [binOp, Op.stringOp]
  · exact h.elim
theorem good_cmp {op : BinOp} {x y : Operand} {t t' : TypeId} {vx vy : RV} {k : Kont} (ho : o.op = .binOp op t x y t') (h1 : Opd regs x vx) (h2 : Opd regs y vy) {k' : Prop} (h : cmpK P op t vx vy (fun v => k v [] [] [] nx) k')
    (hb : k' → ∃ rv rd pre pb nx', k rv rd pre pb nx' ∧ Good P o regs bs nx rv rd pre pb nx') : ∃ rv rd pre pb nx', k rv rd pre pb nx' ∧ Good P o regs bs nx rv rd pre pb nx' := by
  unfold cmpK at h
  split at h
  · rename_i l
    split at h
    · rename_i r
      unfold aggcmpK at h
      split at h
      · rename_i hag
        obtain ⟨hok, h⟩ := h
        obtain ⟨hn, hg⟩ := aggOk_spec hok
        split at h
        · rename_i hl hr
          have hl := Nat.eq_of_beq_eq_true hl
          have hr := Nat.eq_of_beq_eq_true hr
          obtain ⟨xs, h, hx1, hx2, hx3⟩ := intsK_spec _ _ _ _ h
          obtain ⟨ys, h, hy1, hy2, hy3⟩ := intsK_spec _ _ _ _ h
          split at h
          · exact ⟨_, _, _, _, _, h, good_eqAgg ho hn hg hag (.inl rfl) h1 h2 hl hr hx1 hy1 hx3 hy3⟩
          · exact ⟨_, _, _, _, _, h, good_eqAgg ho hn hg hag (.inr rfl) h1 h2 hl hr hx1 hy1 hx3 hy3⟩
          · exact h.elim
        · exact h.elim
      · exact h.elim
    · exact h.elim
  · split at h
    · split at h
      · rename_i e ht
        obtain ⟨rv, h3, h4⟩ := good_nilcmp (bs := bs) (nx := nx) ho ht h1 h2 h
        exact ⟨_, _, _, _, _, h3, h4⟩
      · exact h.elim
    · exact h.elim
  · split at h
    · obtain ⟨rv, h3, h4⟩ := good_flt (bs := bs) (nx := nx) ho h1 h2 h
      exact ⟨_, _, _, _, _, h3, h4⟩
    · exact h.elim
  · split at h
    · obtain ⟨rv, h3, h4⟩ := good_str (bs := bs) (nx := nx) ho h1 h2 h
      exact ⟨_, _, _, _, _, h3, h4⟩
    · exact h.elim
  · exact hb h
theorem good_idx {x ix : Operand} {t : TypeId} {vx vi : RV} {k : Kont} (ho : o.op = .index t x ix) (h1 : Opd regs x vx) (h2 : Opd regs ix vi) (h : idxK P t vx vi fun v => k v [] [] [] nx) :
    ∃ rv rd pre pb nx', k rv rd pre pb nx' ∧ Good P o regs bs nx rv rd pre pb nx' := by
  unfold idxK at h
  split at h
  · rename_i len e l q i ht
    split at h
    · rename_i he
      obtain ⟨inf, hi, h⟩ := sizeK_spec h
      split at h
      · rename_i hm hl
        have hm := Nat.eq_of_beq_eq_true hm
        have hl := Nat.eq_of_beq_eq_true hl
        obtain ⟨hb, h⟩ := h
        obtain ⟨xs, h, hx1, hx2, hx3⟩ := intsK_spec _ _ _ _ h
        exact ⟨_, _, _, _, _, h, good_index ho ht he hi hm h1 h2 hb hl hx1 hx3⟩
      · exact h.elim
    · exact h.elim
  · rename_i s q i ht
    obtain ⟨hb, h⟩ := h
    refine ⟨_, _, _, _, _, h, good_pure (sub_nil _) fun F hs ρ w hr hw => ⟨.int .u8 (strAt s i.toNat), ?_, rfl, rfl⟩⟩
    have e1 := rel_v (hr x (by simp [ho, Op.operands]) _ h1)
    have e2 := rel_v (hr ix (by simp [ho, Op.operands]) _ h2)
    have hlt : i.toNat < s.size := by
      have := hb.2
      unfold strLen at this
      omega
    have e3 : s[i.toNat]? = some s[i.toNat] := getElem?_pos s i.toNat hlt
    have e4 : s.data.getD i.toNat 0 = s[i.toNat] := by
      show s.data.getD i.toNat 0 = s.get i.toNat hlt
      rw [Array.getD_eq_getD_getElem?, Array.getElem?_eq_getElem (show i.toNat < s.data.size from hlt)]
      rfl
    simp only [execOp, ho, e1, e2]
    unfold strAt
    rw [e4]
    simp [Instr.index, asIntOf, run_underlying ht, hb.1, e3]
  · exact h.elim
end
end Go.Eng
namespace Go.Eng
open Go
theorem keyI_pair (a b : Int) : keyI (pairV a b) = (a, b) := rfl
theorem AllPair.tail {e : MapEntry} {es : List MapEntry} (h : AllPair (e :: es)) : AllPair es := fun x hx => h x (by simp [hx])
theorem lookP_cons {e : MapEntry} {es : List MapEntry} {x y c : Int} (h1 : e.key = pairV x y) (h2 : e.val = .int .i64 c) (a b : Int) :
    lookP (e :: es) a b = if a = x ∧ b = y then some c else lookP es a b := by
  have hk : keyI e.key = (x, y) := by rw [h1]; rfl
  have hv : valI1 e.val = c := by rw [h2]; rfl
  rw [lookP, hk, hv]
  by_cases q : a = x ∧ b = y
  · rw [if_pos q, if_pos (by rw [q.1, q.2])]
  · rw [if_neg q, if_neg (fun z => q ⟨congrArg Prod.fst z, congrArg Prod.snd z⟩)]
section
variable {P : Program}
structure PairOk (P : Program) (kt : TypeId) : Prop where
  eq : eqT P 8 kt = some 2
  fs : ∃ f g : Field, P.underlying kt = some (.struct #[f, g]) ∧ eqT P 7 f.type = some 1 ∧ eqT P 7 g.type = some 1 ∧ f.offset = 0 ∧ g.offset = 1 ∧ P.underlying f.type = some (.int .i64) ∧ P.underlying g.type = some (.int .i64)
theorem pairT_spec {kt : TypeId} (h : pairT P kt = true) : PairOk P kt := by
  unfold pairT at h
  split at h
  · rename_i fs hu
    split at h
    · rename_i f g hl
      simp only [Bool.and_eq_true, beq_iff_eq] at h
      obtain ⟨⟨⟨⟨⟨⟨h1, h2⟩, h3⟩, h4⟩, h5⟩, h6⟩, h7⟩ := h
      have hfs : fs = #[f, g] := Array.toList_inj.1 hl
      subst hfs
      refine ⟨h7, f, g, hu, h3, h4, h1, h2, ?_, ?_⟩
      · unfold intT at h5; split at h5
        · assumption
        · cases h5
      · unfold intT at h6; split at h6
        · assumption
        · cases h6
    · cases h
  · cases h
theorem valI_pair {kt : TypeId} (hp : PairOk P kt) (a b : Int) : valI P kt [a, b] = pairV a b := by
  obtain ⟨_, f, g, hu, _⟩ := hp
  unfold valI
  rw [hu]; rfl
theorem run_equal_pair {kt : TypeId} (hp : PairOk P kt) (a b x y : Int) (w : World) : (Op.equal kt (pairV a b) (pairV x y)).run P w = .ok (decide (a = x ∧ b = y)) w := by
  have := run_eqT 8 kt 2 hp.eq 9992 [a, b] [x, y] rfl rfl w
  rw [valI_pair hp, valI_pair hp] at this
  show (Op.equalIn (8 + 9992) kt _ _).run P w = _
  rw [this]
  congr 1
  simp
theorem run_checkKey_pair {kt : TypeId} (hp : PairOk P kt) (e : Bool) (a b : Int) (w : World) : (Instr.checkKey e 10000 kt (pairV a b)).run P w = .ok () w := by
  obtain ⟨_, f, g, hu, h1, h2, h3, h4, h5, h6⟩ := hp
  rw [show (10000 : Nat) = 9999 + 1 from rfl]
  have c1 : ∀ v, (Instr.checkKey e 9999 f.type v).run P w = .ok () w := fun v => by
    rw [show (9999 : Nat) = 9998 + 1 from rfl]
    unfold Instr.checkKey
    rw [Sem.run_bind, run_underlying h5]
    rfl
  have c2 : ∀ v, (Instr.checkKey e 9999 g.type v).run P w = .ok () w := fun v => by
    rw [show (9999 : Nat) = 9998 + 1 from rfl]
    unfold Instr.checkKey
    rw [Sem.run_bind, run_underlying h6]
    rfl
  have p1 := part_ints h1 [a, b] 0 (by simp) w
  have p2 := part_ints h2 [a, b] 1 (by simp) w
  have ev : ([a, b].map (Value.int .i64)).toArray = #[Value.int .i64 a, Value.int .i64 b] := rfl
  rw [ev] at p1 p2
  unfold Instr.checkKey
  rw [Sem.run_bind, run_underlying hu]
  simp only [Result.andThen_ok, pairV]
  rw [← Array.forIn_toList]
  simp only [List.forIn_cons, List.forIn_nil, Sem.run_bind, h3, h4]
  by_cases n1 : f.name = "_" <;> by_cases n2 : g.name = "_" <;> simp [n1, n2, p1, p2, c1, c2, Sem.run_bind]
theorem findAsking_spec {kt : TypeId} (hp : PairOk P kt) (a b : Int) : ∀ (es : List MapEntry) (i : Nat), AllPair es →
    (lookP es a b = none ∧ ∀ w, (Instr.findAsking kt (pairV a b) es i).run P w = .ok none w) ∨
    ∃ n c e, lookP es a b = some c ∧ (∀ w, (Instr.findAsking kt (pairV a b) es i).run P w = .ok (some (i + n, .int .i64 c)) w) ∧ es[n]? = some e ∧ e.key = pairV a b ∧
      ∀ x, AllPair (es.modify n fun e => { e with key := pairV a b, val := .int .i64 x }) ∧
        ∀ a' b', lookP (es.modify n fun e => { e with key := pairV a b, val := .int .i64 x }) a' b' = if a' = a ∧ b' = b then some x else lookP es a' b'
  | [], i, _ => .inl ⟨rfl, fun w => rfl⟩
  | e :: es, i, h => by
    obtain ⟨x, y, c, h1, h2⟩ := h e (by simp)
    by_cases hab : a = x ∧ b = y
    · refine .inr ⟨0, c, e, ?_, fun w => ?_, rfl, by rw [h1, hab.1, hab.2], fun z => ⟨?_, fun a' b' => ?_⟩⟩
      · rw [lookP_cons h1 h2, if_pos hab]
      · unfold Instr.findAsking
        rw [Sem.run_bind, h1, run_equal_pair hp]
        simp [hab, h2]
      · intro q hq
        simp at hq
        rcases hq with rfl | hq
        · exact ⟨a, b, z, rfl, rfl⟩
        · exact h q (by simp [hq])
      · simp only [List.modify_zero_cons]
        rw [lookP_cons rfl rfl, lookP_cons h1 h2]
        rw [hab.1, hab.2]
        split <;> rfl
    · rcases findAsking_spec hp a b es (i + 1) h.tail with ⟨h3, h4⟩ | ⟨n, d, e', h3, h4, h5, h6, h7⟩
      · refine .inl ⟨by rw [lookP_cons h1 h2, if_neg hab, h3], fun w => ?_⟩
        unfold Instr.findAsking
        rw [Sem.run_bind, h1, run_equal_pair hp]
        simp only [Result.andThen_ok, decide_eq_false hab, Bool.false_eq_true, if_false]
        exact h4 w
      · refine .inr ⟨n + 1, d, e', by rw [lookP_cons h1 h2, if_neg hab, h3], fun w => ?_, by simpa using h5, h6, fun z => ⟨?_, fun a' b' => ?_⟩⟩
        · unfold Instr.findAsking
          rw [Sem.run_bind, h1, run_equal_pair hp]
          simp only [Result.andThen_ok, decide_eq_false hab, Bool.false_eq_true, if_false]
          rw [h4 w]
          congr 3
          omega
        · intro q hq
          simp only [List.modify_succ_cons, List.mem_cons] at hq
          rcases hq with rfl | hq
          · exact ⟨x, y, c, h1, h2⟩
          · exact (h7 z).1 q hq
        · simp only [List.modify_succ_cons]
          rw [lookP_cons h1 h2, lookP_cons h1 h2, (h7 z).2 a' b']
          by_cases e1 : a' = x ∧ b' = y
          · rw [if_pos e1, if_pos e1, if_neg (fun q : a' = a ∧ b' = b => hab ⟨q.1.symm.trans e1.1, q.2.symm.trans e1.2⟩)]
          · rw [if_neg e1, if_neg e1]
theorem lookP_push (es : List MapEntry) (h : AllPair es) (a b x : Int) (t : Nat) (hn : lookP es a b = none) :
    AllPair (es ++ [{ key := pairV a b, val := .int .i64 x, born := t }]) ∧
    ∀ a' b', lookP (es ++ [{ key := pairV a b, val := .int .i64 x, born := t }]) a' b' = if a' = a ∧ b' = b then some x else lookP es a' b' := by
  refine ⟨fun y hy => ?_, fun a' b' => ?_⟩
  · simp at hy
    rcases hy with hy | rfl
    · exact h y hy
    · exact ⟨a, b, x, rfl, rfl⟩
  · induction es with
    | nil => rw [List.nil_append, lookP_cons rfl rfl]
    | cons e es ih =>
      obtain ⟨u, v, c, h1, h2⟩ := h e (by simp)
      rw [lookP_cons h1 h2] at hn
      have hab : ¬ (a = u ∧ b = v) := by intro e1; rw [if_pos e1] at hn; cases hn
      rw [if_neg hab] at hn
      rw [List.cons_append, lookP_cons h1 h2, lookP_cons h1 h2, ih h.tail hn]
      by_cases e1 : a' = u ∧ b' = v
      · rw [if_pos e1, if_pos e1, if_neg (fun q : a' = a ∧ b' = b => hab ⟨q.1.symm.trans e1.1, q.2.symm.trans e1.2⟩)]
      · rw [if_neg e1, if_neg e1]
theorem run_findKey_pair {kt : TypeId} (hp : PairOk P kt) (a b : Int) (es : List MapEntry) (h : AllPair es) (w : World) : (Instr.findKey kt (pairV a b) es).run P w = (Instr.findAsking kt (pairV a b) es 0).run P w := by
  obtain ⟨_, f, g, hu, _⟩ := hp
  unfold Instr.findKey
  rw [Sem.run_bind, run_underlying hu]
  simp only [Result.andThen_ok]
  cases es with
  | nil => rfl
  | cons e es =>
    have : Instr.findNow (.struct #[f, g]) (pairV a b) (e :: es) 0 = none := by
      simp [Instr.findNow, Instr.sameNow]
    rw [this]
theorem run_lookup_pair {t kt et : TypeId} {inf : TypeInfo} (ht : P.underlying t = some (.map kt et)) (hp : PairOk P kt) (hi : P.info? et = some inf) (hz : inf.zero = some (.int .i64 0))
    {w : World} {r : Nat} {es : Array MapEntry} {clk : Nat} {f : Int → Int → Option Int} (hr : w.heap[r]? = some (.map es clk)) (hm : PMap es f) (a b : Int) (ok : Bool) :
    (Instr.lookup t (.map (some r)) (pairV a b) ok).run P w = .ok (if ok then .tuple #[.int .i64 ((f a b).getD 0), .bool (f a b).isSome] else .int .i64 ((f a b).getD 0)) w := by
  simp only [Instr.lookup, Sem.run_bind, run_underlying ht, Result.andThen_ok, run_getObj_map hr, Sem.run_pure, run_checkKey_pair hp, run_findKey_pair hp a b es.toList hm.1]
  rcases findAsking_spec hp a b es.toList 0 hm.1 with ⟨h1, h2⟩ | ⟨n, c, e, h1, h2, _⟩
  · rw [h2, hm.2 a b, h1]
    simp [zeroValue, typeInfo, hi, hz]
  · rw [h2, hm.2 a b, h1]
    simp
theorem run_mapUpdate_pair {t kt et : TypeId} (ht : P.underlying t = some (.map kt et)) (hp : PairOk P kt)
    {w : World} {r : Nat} {es : Array MapEntry} {clk : Nat} {f : Int → Int → Option Int} (hr : w.heap[r]? = some (.map es clk)) (hm : PMap es f) (a b x : Int) :
    ∃ es' clk', (Instr.mapUpdate t (.map (some r)) (pairV a b) (.int .i64 x)).run P w = .ok () { w with heap := w.heap.setIfInBounds r (.map es' clk') } ∧
      PMap es' (fun a' b' => if a' = a ∧ b' = b then some x else f a' b') := by
  have hso : ∀ ob, (setObj r ob).run P w = .ok () { w with heap := w.heap.setIfInBounds r ob } := by
    intro ob
    simp [setObj, Sem.run, hr]
  simp only [Instr.mapUpdate, Sem.run_bind, run_underlying ht, Result.andThen_ok, run_getObj_map hr, run_checkKey_pair hp, run_findKey_pair hp a b es.toList hm.1]
  rcases findAsking_spec hp a b es.toList 0 hm.1 with ⟨h1, h2⟩ | ⟨n, c, e, h1, h2, h3, h4, h5⟩
  · rw [h2]
    simp only [Result.andThen_ok, hso]
    obtain ⟨h6, h7⟩ := lookP_push es.toList hm.1 a b x clk h1
    refine ⟨_, _, rfl, ?_, fun a' b' => ?_⟩
    · simpa using h6
    · simp only [Array.toList_push]
      rw [h7 a' b', hm.2 a' b']
  · rw [h2]
    simp only [Result.andThen_ok, Nat.zero_add]
    have he : ((es[n]?).map (·.key)).getD (pairV a b) = pairV a b := by
      have : es[n]? = some e := by simpa using h3
      rw [this]; simp [h4]
    have hks : (Instr.keyThatStays (((es[n]?).map (·.key)).getD (pairV a b)) (pairV a b)).run P w = .ok (pairV a b) w := by
      rw [he]
      simp [Instr.keyThatStays, Instr.sameBits, pairV]
    simp only [Sem.run_bind, hks, Result.andThen_ok, hso]
    refine ⟨_, _, rfl, ?_, fun a' b' => ?_⟩
    · have := (h5 x).1
      simpa using this
    · have := (h5 x).2 a' b'
      simp only [Array.toList_modify]
      rw [this, hm.2 a' b']
end
section
variable {P : Program} {o : Oper} {regs : List RV} {bs : List (Nat × Blk)} {nx : Nat} {rv : RV}
theorem good_makeMapP {t kt et : TypeId} (ho : o.op = .makeMap t none) (_ht : P.underlying t = some (.map kt et)) :
    Good P o regs bs nx (.s (.c (.mp nx))) [] [] [(nx, .pmap fun _ _ => none)] (nx + 1) := by
  refine good_new (sub_nil _) fun F hs ρ w hr hw => ⟨.map (some w.heap.size), .map (some w.heap.size), w.alloc (.map #[] 0), ?_, fr_alloc _ _, ?_, ?_, ?_⟩
  · simp only [execOp, ho]
    simp [Instr.makeMap, newObj, Sem.run]
  · intro hs' O' _ _ _
    exact ⟨w.heap.size, #[], 0, rfl, alloc_new _ _, fun e he => by simp at he, fun a b => rfl⟩
  · intro x hx; simp [owner] at hx; omega
  · intro hs' O' _ hn _
    exact ⟨hn, _, rfl⟩
/-- Two numbers in a register are the pair. -/
theorem agg_pair {F : Nat → Prop} {hs : Names} {w : World} {l : List Cell} {xs : List Int} {v : Value} (h : RVRel F w (.s (.agg l)) hs v) (hl : l.length = 2) (hx : xs.length = 2) (hxs : ∀ t, t < 2 → l[0 + t]? = some (.v (.int .i64 (xs.getD t 0)))) : v = pairV (xs.getD 0 0) (xs.getD 1 0) := by
  have e1 := ints_agg hl hx hxs h
  rw [e1]
  match xs, hx with
  | [x, y], _ => rfl
theorem good_lookupP {t kt et : TypeId} {m ix : Operand} {ok : Bool} {inf : TypeInfo} {j : Nat} {l : List Cell} {xs : List Int} {f : Int → Int → Option Int} (ho : o.op = .lookup t m ix ok)
    (ht : P.underlying t = some (.map kt et)) (hp : PairOk P kt) (hi : P.info? et = some inf) (hz : inf.zero = some (.int .i64 0))
    (hm : Opd regs m (.s (.c (.mp j)))) (hx : Opd regs ix (.s (.agg l))) (hl : l.length = 2) (hx2 : xs.length = 2) (hxs : ∀ t, t < 2 → l[0 + t]? = some (.v (.int .i64 (xs.getD t 0)))) (hb : look bs j = some (.pmap f))
    (hv : rv = if ok then .tup [.c (.v (.int .i64 ((f (xs.getD 0 0) (xs.getD 1 0)).getD 0))), .c (.v (.bool (f (xs.getD 0 0) (xs.getD 1 0)).isSome))] else .s (.c (.v (.int .i64 ((f (xs.getD 0 0) (xs.getD 1 0)).getD 0))))) :
    Good P o regs bs nx rv [(j, .pmap f)] [] [] nx := by
  refine good_pure (sub_one hb) fun F hs ρ w hr hw => ?_
  obtain ⟨e1, _⟩ := hr m (by simp [ho, Op.operands]) _ hm
  have e2 := agg_pair (hr ix (by simp [ho, Op.operands]) _ hx) hl hx2 hxs
  obtain ⟨u, hu, r, es, clk, e3, e4, e5⟩ := hw.blk j (.pmap f) (by simp [look])
  rw [e1] at hu
  simp only [Option.some.injEq] at hu
  generalize xs.getD 0 0 = a at *
  generalize xs.getD 1 0 = b at *
  refine ⟨if ok then .tuple #[.int .i64 ((f a b).getD 0), .bool (f a b).isSome] else .int .i64 ((f a b).getD 0), ?_, ?_⟩
  · simp only [execOp, ho, e2, hu, e3]
    rw [Sem.run_bind, run_lookup_pair ht hp hi hz e4 e5]
    rfl
  · subst hv
    cases ok
    · exact ⟨rfl, rfl⟩
    · refine ⟨_, rfl, rfl, fun i c u hc hu => ?_⟩
      match i, hc, hu with
      | 0, hc, hu => simp at hc hu; subst hc; subst hu; exact ⟨rfl, rfl⟩
      | 1, hc, hu => simp at hc hu; subst hc; subst hu; exact ⟨rfl, rfl⟩
      | i + 2, hc, hu => simp at hc
theorem good_mapUpdateP {t kt et : TypeId} {m ix x : Operand} {j : Nat} {c : Int} {l : List Cell} {xs : List Int} {f : Int → Int → Option Int} (ho : o.op = .mapUpdate t m ix x)
    (ht : P.underlying t = some (.map kt et)) (hp : PairOk P kt)
    (hm : Opd regs m (.s (.c (.mp j)))) (hi : Opd regs ix (.s (.agg l))) (hl : l.length = 2) (hx2 : xs.length = 2) (hxs : ∀ t, t < 2 → l[0 + t]? = some (.v (.int .i64 (xs.getD t 0)))) (hx : Opd regs x (.s (.c (.v (.int .i64 c))))) (hb : look bs j = some (.pmap f)) :
    Good P o regs bs nx .un [] [(j, .pmap f)] [(j, .pmap fun a' b' => if a' = xs.getD 0 0 ∧ b' = xs.getD 1 0 then some c else f a' b')] nx := by
  refine good_upd hb fun F hs ρ w h hr hw hh hbr => ?_
  obtain ⟨e1, _⟩ := hr m (by simp [ho, Op.operands]) _ hm
  have e2 := agg_pair (hr ix (by simp [ho, Op.operands]) _ hi) hl hx2 hxs
  have e6 := rel_v (hr x (by simp [ho, Op.operands]) _ hx)
  obtain ⟨r, es, clk, e3, e4, e5⟩ := hbr
  rw [e1] at hh
  simp only [Option.some.injEq] at hh
  obtain ⟨es', clk', h1, h2⟩ := run_mapUpdate_pair ht hp e4 e5 (xs.getD 0 0) (xs.getD 1 0) c
  have hlt : r < w.heap.size := (Array.getElem?_eq_some_iff.1 e4).1
  refine ⟨undef, { w with heap := w.heap.setIfInBounds r (.map es' clk') }, .inr ⟨?_, rfl⟩, ?_, fun y hy => by rw [e3] at hy ⊢; simpa [owner] using hy, fun O' _ _ => ?_, fun O' _ => rfl⟩
  · simp only [execOp, ho, e2, e6, hh, e3]
    rw [Sem.run_bind, h1]
    rfl
  · refine ⟨rfl, rfl, rfl, by simp, fun y hy hn => ?_⟩
    have : ¬ r = y := fun e => hn (by rw [e3, ← e]; rfl)
    simp [Array.getElem?_setIfInBounds, this]
  · refine ⟨r, es', clk', e3, by simp [hlt], h2⟩
end
end Go.Eng
namespace Go.Eng
open Go
theorem ba_beq {a b : ByteArray} : (a == b) = true ↔ a = b := by
  obtain ⟨a⟩ := a; obtain ⟨b⟩ := b
  show (a == b) = true ↔ _
  simp
theorem ba_bne {a b : ByteArray} (h : ¬ a = b) : (a == b) = false := by
  cases e : (a == b) with
  | false => rfl
  | true => exact absurd (ba_beq.1 e) h
theorem AllStr.tail {e : MapEntry} {es : List MapEntry} (h : AllStr (e :: es)) : AllStr es := fun x hx => h x (by simp [hx])
theorem lookS_cons {e : MapEntry} {es : List MapEntry} {b : ByteArray} {c : Int} (h1 : e.key = .string b) (h2 : e.val = .int .i64 c) (a : ByteArray) :
    lookS (e :: es) a = if (a == b) = true then some c else lookS es a := by
  have hk : strI e.key = b := by rw [h1]; rfl
  have hv : valI1 e.val = c := by rw [h2]; rfl
  rw [lookS, hk, hv]
theorem findNow_str (a : ByteArray) : ∀ (es : List MapEntry) (i : Nat), AllStr es →
    (lookS es a = none ∧ Instr.findNow .string (.string a) es i = some none) ∨
    ∃ n c e, lookS es a = some c ∧ Instr.findNow .string (.string a) es i = some (some (i + n, .int .i64 c)) ∧ es[n]? = some e ∧ e.key = .string a ∧
      ∀ x, AllStr (es.modify n fun e => { e with key := .string a, val := .int .i64 x }) ∧
        ∀ a', lookS (es.modify n fun e => { e with key := .string a, val := .int .i64 x }) a' = if (a' == a) = true then some x else lookS es a'
  | [], i, _ => .inl ⟨rfl, rfl⟩
  | e :: es, i, h => by
    obtain ⟨b, c, h1, h2⟩ := h e (by simp)
    by_cases hab : a = b
    · have hbb : (a == b) = true := ba_beq.2 hab
      refine .inr ⟨0, c, e, ?_, ?_, rfl, by rw [h1, hab], fun x => ⟨?_, fun a' => ?_⟩⟩
      · rw [lookS_cons h1 h2, if_pos hbb]
      · simp [Instr.findNow, Instr.sameNow, h1, h2, hbb]
      · intro y hy
        simp at hy
        rcases hy with rfl | hy
        · exact ⟨a, x, rfl, rfl⟩
        · exact h y (by simp [hy])
      · simp only [List.modify_zero_cons]
        rw [lookS_cons rfl rfl, lookS_cons h1 h2]
        subst hab
        split <;> rfl
    · have hb : (a == b) = false := ba_bne hab
      rcases findNow_str a es (i + 1) h.tail with ⟨h3, h4⟩ | ⟨n, d, e', h3, h4, h5, h6, h7⟩
      · refine .inl ⟨by rw [lookS_cons h1 h2, if_neg (by rw [hb]; exact Bool.noConfusion), h3], ?_⟩
        simp [Instr.findNow, Instr.sameNow, h1, hb, h4]
      · refine .inr ⟨n + 1, d, e', by rw [lookS_cons h1 h2, if_neg (by rw [hb]; exact Bool.noConfusion), h3], ?_, by simpa using h5, h6, fun x => ⟨?_, fun a' => ?_⟩⟩
        · simp only [Instr.findNow, Instr.sameNow, h1]
          rw [hb]
          simp only [h4]
          congr 3
          omega
        · intro y hy
          simp only [List.modify_succ_cons, List.mem_cons] at hy
          rcases hy with rfl | hy
          · exact ⟨b, c, h1, h2⟩
          · exact (h7 x).1 y hy
        · simp only [List.modify_succ_cons]
          rw [lookS_cons h1 h2, lookS_cons h1 h2, (h7 x).2 a']
          by_cases e1 : a' = b
          · subst e1
            simp [ba_beq, Ne.symm hab]
          · simp [ba_beq, e1]
theorem lookS_push (es : List MapEntry) (h : AllStr es) (a : ByteArray) (x : Int) (t : Nat) (hn : lookS es a = none) :
    AllStr (es ++ [{ key := .string a, val := .int .i64 x, born := t }]) ∧
    ∀ a', lookS (es ++ [{ key := .string a, val := .int .i64 x, born := t }]) a' = if (a' == a) = true then some x else lookS es a' := by
  refine ⟨fun y hy => ?_, fun a' => ?_⟩
  · simp at hy
    rcases hy with hy | rfl
    · exact h y hy
    · exact ⟨a, x, rfl, rfl⟩
  · induction es with
    | nil => rw [List.nil_append, lookS_cons rfl rfl]
    | cons e es ih =>
      obtain ⟨b, c, h1, h2⟩ := h e (by simp)
      rw [lookS_cons h1 h2] at hn
      have hab : ¬ a = b := by
        rintro rfl
        rw [if_pos (ba_beq.2 rfl)] at hn; cases hn
      rw [if_neg (by rw [ba_bne hab]; exact Bool.noConfusion)] at hn
      rw [List.cons_append, lookS_cons h1 h2, lookS_cons h1 h2, ih h.tail hn]
      by_cases e1 : a' = b
      · subst e1
        simp [ba_beq, Ne.symm hab]
      · simp [ba_beq, e1]
section
variable {P : Program}
theorem run_checkKey_str {kt : TypeId} (hk : P.underlying kt = some .string) (e : Bool) (v : Value) (w : World) : (Instr.checkKey e 10000 kt v).run P w = .ok () w := by
  rw [show (10000 : Nat) = 9999 + 1 from rfl]
  unfold Instr.checkKey
  rw [Sem.run_bind, run_underlying hk]
  rfl
theorem run_lookup_str {t kt et : TypeId} {inf : TypeInfo} (ht : P.underlying t = some (.map kt et)) (hk : P.underlying kt = some .string) (hi : P.info? et = some inf) (hz : inf.zero = some (.int .i64 0))
    {w : World} {r : Nat} {es : Array MapEntry} {clk : Nat} {f : ByteArray → Option Int} (hr : w.heap[r]? = some (.map es clk)) (hm : SMap es f) (a : ByteArray) (ok : Bool) :
    (Instr.lookup t (.map (some r)) (.string a) ok).run P w = .ok (if ok then .tuple #[.int .i64 ((f a).getD 0), .bool (f a).isSome] else .int .i64 ((f a).getD 0)) w := by
  have hfk : (Instr.findKey kt (.string a) es.toList).run P w = .ok ((Instr.findNow .string (.string a) es.toList 0).getD none) w := by
    unfold Instr.findKey
    rw [Sem.run_bind, run_underlying hk]
    simp only [Result.andThen_ok]
    rcases findNow_str a es.toList 0 hm.1 with ⟨_, h2⟩ | ⟨n, c, e, _, h2, _⟩ <;> rw [h2] <;> rfl
  simp only [Instr.lookup, Sem.run_bind, run_underlying ht, Result.andThen_ok, run_getObj_map hr, Sem.run_pure, run_checkKey_str hk, hfk]
  rcases findNow_str a es.toList 0 hm.1 with ⟨h1, h2⟩ | ⟨n, c, e, h1, h2, _⟩
  · rw [h2, hm.2 a, h1]
    simp [zeroValue, typeInfo, hi, hz]
  · rw [h2, hm.2 a, h1]
    simp
theorem run_mapUpdate_str {t kt et : TypeId} (ht : P.underlying t = some (.map kt et)) (hk : P.underlying kt = some .string)
    {w : World} {r : Nat} {es : Array MapEntry} {clk : Nat} {f : ByteArray → Option Int} (hr : w.heap[r]? = some (.map es clk)) (hm : SMap es f) (a : ByteArray) (x : Int) :
    ∃ es' clk', (Instr.mapUpdate t (.map (some r)) (.string a) (.int .i64 x)).run P w = .ok () { w with heap := w.heap.setIfInBounds r (.map es' clk') } ∧
      SMap es' (fun a' => if (a' == a) = true then some x else f a') := by
  have hfk : (Instr.findKey kt (.string a) es.toList).run P w = .ok ((Instr.findNow .string (.string a) es.toList 0).getD none) w := by
    unfold Instr.findKey
    rw [Sem.run_bind, run_underlying hk]
    simp only [Result.andThen_ok]
    rcases findNow_str a es.toList 0 hm.1 with ⟨_, h2⟩ | ⟨n, c, e, _, h2, _⟩ <;> rw [h2] <;> rfl
  have hso : ∀ ob, (setObj r ob).run P w = .ok () { w with heap := w.heap.setIfInBounds r ob } := by
    intro ob
    simp [setObj, Sem.run, hr]
  simp only [Instr.mapUpdate, Sem.run_bind, run_underlying ht, Result.andThen_ok, run_getObj_map hr, run_checkKey_str hk, hfk]
  rcases findNow_str a es.toList 0 hm.1 with ⟨h1, h2⟩ | ⟨n, c, e, h1, h2, h3, h4, h5⟩
  · rw [h2]
    simp only [Option.getD_some, hso]
    obtain ⟨h6, h7⟩ := lookS_push es.toList hm.1 a x clk h1
    refine ⟨_, _, rfl, ?_, fun a' => ?_⟩
    · simpa using h6
    · simp only [Array.toList_push]
      rw [h7 a', hm.2 a']
  · rw [h2]
    simp only [Option.getD_some, Nat.zero_add]
    have he : ((es[n]?).map (·.key)).getD (.string a) = .string a := by
      have : es[n]? = some e := by simpa using h3
      rw [this]; simp [h4]
    have hks : (Instr.keyThatStays (((es[n]?).map (·.key)).getD (.string a)) (.string a)).run P w = .ok (.string a) w := by
      rw [he]
      simp [Instr.keyThatStays, Instr.sameBits, ba_beq]
    simp only [Sem.run_bind, hks, Result.andThen_ok, hso]
    refine ⟨_, _, rfl, ?_, fun a' => ?_⟩
    · have := (h5 x).1
      simpa using this
    · have := (h5 x).2 a'
      simp only [Array.toList_modify]
      rw [this, hm.2 a']
end
section
variable {P : Program} {o : Oper} {regs : List RV} {bs : List (Nat × Blk)} {nx : Nat} {rv : RV}
theorem good_makeMapS {t kt et : TypeId} (ho : o.op = .makeMap t none) (_ht : P.underlying t = some (.map kt et)) :
    Good P o regs bs nx (.s (.c (.mp nx))) [] [] [(nx, .smap fun _ => none)] (nx + 1) := by
  refine good_new (sub_nil _) fun F hs ρ w hr hw => ⟨.map (some w.heap.size), .map (some w.heap.size), w.alloc (.map #[] 0), ?_, fr_alloc _ _, ?_, ?_, ?_⟩
  · simp only [execOp, ho]
    simp [Instr.makeMap, newObj, Sem.run]
  · intro hs' O' _ _ _
    exact ⟨w.heap.size, #[], 0, rfl, alloc_new _ _, fun e he => by simp at he, fun a => rfl⟩
  · intro x hx; simp [owner] at hx; omega
  · intro hs' O' _ hn _
    exact ⟨hn, _, rfl⟩
theorem good_lookupS {t kt et : TypeId} {m ix : Operand} {ok : Bool} {inf : TypeInfo} {j : Nat} {a : ByteArray} {f : ByteArray → Option Int} (ho : o.op = .lookup t m ix ok)
    (ht : P.underlying t = some (.map kt et)) (hk : P.underlying kt = some .string) (hi : P.info? et = some inf) (hz : inf.zero = some (.int .i64 0))
    (hm : Opd regs m (.s (.c (.mp j)))) (hx : Opd regs ix (.s (.c (.v (.string a))))) (hb : look bs j = some (.smap f))
    (hv : rv = if ok then .tup [.c (.v (.int .i64 ((f a).getD 0))), .c (.v (.bool (f a).isSome))] else .s (.c (.v (.int .i64 ((f a).getD 0))))) :
    Good P o regs bs nx rv [(j, .smap f)] [] [] nx := by
  refine good_pure (sub_one hb) fun F hs ρ w hr hw => ?_
  obtain ⟨e1, _⟩ := hr m (by simp [ho, Op.operands]) _ hm
  have e2 := rel_v (hr ix (by simp [ho, Op.operands]) _ hx)
  obtain ⟨u, hu, r, es, clk, e3, e4, e5⟩ := hw.blk j (.smap f) (by simp [look])
  rw [e1] at hu
  simp only [Option.some.injEq] at hu
  refine ⟨if ok then .tuple #[.int .i64 ((f a).getD 0), .bool (f a).isSome] else .int .i64 ((f a).getD 0), ?_, ?_⟩
  · simp only [execOp, ho, e2, hu, e3]
    rw [Sem.run_bind, run_lookup_str ht hk hi hz e4 e5]
    rfl
  · subst hv
    cases ok
    · exact ⟨rfl, rfl⟩
    · refine ⟨_, rfl, rfl, fun i c u hc hu => ?_⟩
      match i, hc, hu with
      | 0, hc, hu => simp at hc hu; subst hc; subst hu; exact ⟨rfl, rfl⟩
      | 1, hc, hu => simp at hc hu; subst hc; subst hu; exact ⟨rfl, rfl⟩
      | i + 2, hc, hu => simp at hc
theorem good_mapUpdateS {t kt et : TypeId} {m ix x : Operand} {j : Nat} {c : Int} {a : ByteArray} {f : ByteArray → Option Int} (ho : o.op = .mapUpdate t m ix x)
    (ht : P.underlying t = some (.map kt et)) (hk : P.underlying kt = some .string)
    (hm : Opd regs m (.s (.c (.mp j)))) (hi : Opd regs ix (.s (.c (.v (.string a))))) (hx : Opd regs x (.s (.c (.v (.int .i64 c))))) (hb : look bs j = some (.smap f)) :
    Good P o regs bs nx .un [] [(j, .smap f)] [(j, .smap fun a' => if (a' == a) = true then some c else f a')] nx := by
  refine good_upd hb fun F hs ρ w h hr hw hh hbr => ?_
  obtain ⟨e1, _⟩ := hr m (by simp [ho, Op.operands]) _ hm
  have e2 := rel_v (hr ix (by simp [ho, Op.operands]) _ hi)
  have e6 := rel_v (hr x (by simp [ho, Op.operands]) _ hx)
  obtain ⟨r, es, clk, e3, e4, e5⟩ := hbr
  rw [e1] at hh
  simp only [Option.some.injEq] at hh
  obtain ⟨es', clk', h1, h2⟩ := run_mapUpdate_str ht hk e4 e5 a c
  have hlt : r < w.heap.size := (Array.getElem?_eq_some_iff.1 e4).1
  refine ⟨undef, { w with heap := w.heap.setIfInBounds r (.map es' clk') }, .inr ⟨?_, rfl⟩, ?_, fun y hy => by rw [e3] at hy ⊢; simpa [owner] using hy, fun O' _ _ => ?_, fun O' _ => rfl⟩
  · simp only [execOp, ho, e2, e6, hh, e3]
    rw [Sem.run_bind, h1]
    rfl
  · refine ⟨rfl, rfl, rfl, by simp, fun y hy hn => ?_⟩
    have : ¬ r = y := fun e => hn (by rw [e3, ← e]; rfl)
    simp [Array.getElem?_setIfInBounds, this]
  · refine ⟨r, es', clk', e3, by simp [hlt], h2⟩
end
end Go.Eng
namespace Go.Eng
open Go
section
variable {P : Program} {o : Oper} {regs : List RV} {bs : List (Nat × Blk)} {nx : Nat} {rv : RV} {rd : List (Nat × Blk)}
theorem strG_rel {O : Nat → Prop} {w : World} {s : ByteArray} : ∀ i, i < s.size → ∀ t, t < 1 → ∀ u, (Go.Lib.strCells s)[i * 1 + t]? = some u → Rel O w (strG s i t) noNames u := by
  intro i hi t ht u hu
  have h0 : t = 0 := by omega
  subst h0
  simp only [Go.Lib.strCells, Nat.mul_one, Nat.add_zero, List.getElem?_map, Option.map_eq_some_iff] at hu
  obtain ⟨b, hb, rfl⟩ := hu
  have e : strG s i 0 = .v (.int .u8 (b.toNat : Nat)) := by
    unfold strG
    rw [List.getD_eq_getElem?_getD, hb]
    rfl
  rw [e]
  exact ⟨rfl, rfl⟩
/-- append of a string, onto what owns its elements, or nothing: the run. -/
theorem run_append_str {t u e : TypeId} {inf : TypeInfo} (ht : P.underlying t = some (.slice e)) (hu : P.underlying u = some .string) (hi : P.info? e = some inf) (hz : inf.zero = some (.int .u8 0)) (h1 : inf.size = 1) (hb1 : inf.bytes = 1) (ty : TypeId) (w : World)
    (v : Value) (n : Nat) (xs : List Value) (hown : w.ownsRow 0 e 1 v n xs) (s : ByteArray) (h63 : n + s.size ≤ maxLen) (hb : n + s.size ≤ 140737488355328) :
    ∃ v' w', (Builtin.append_ #[t, u] ty #[v, .string s]).run P w = .ok v' w' ∧ w'.ownsRow 0 e 1 v' (n + s.size) (xs ++ Go.Lib.strCells s) ∧ w.grownBy w' v.ownBlock ∧ (v'.ownBlock = v.ownBlock ∨ v'.ownBlock = some w.heap.size) := by
  have hsmall : n + s.size ≤ 9223372036854775807 := by simp only [maxLen] at h63; omega
  obtain ⟨v', w', r1, r2, r3, r4⟩ := Go.Lib.run_append_own_string (P := P) w 0 t u ty e inf ht hu hi hz h1 hb1 v n xs hown s h63 hb (Nat.zero_le _)
  refine ⟨v', w', r1, r2, r3, ?_⟩
  have hxl : xs.length = n := by simpa using hown.1
  have hown' := hown
  rcases hown.2 with ⟨rfl, rfl⟩ | ⟨g, cap, cur, rfl, _, hg, hnc, hcm, hcs, htake⟩
  · by_cases hs : s.size = 0
    · left; rw [r4.2 ⟨rfl, hs⟩]
    · have hr := run_append_nil_string (P := P) w t u ty e inf (.int .u8 0) ht hu hi hz s (by omega) (by omega) (by rw [hb1]; omega)
      rw [r1] at hr
      injection hr with e1 _
      right; rw [e1]; rfl
  · by_cases hroom : n + s.size ≤ cap
    · have hcs' : cur.size = cap := by simpa using hcs
      have hr := Go.Lib.run_append_room_string (P := P) w t u ty e inf ht hu hi h1 g n cap cur hg s hroom (by omega)
      rw [r1] at hr
      injection hr with e1 _
      left; rw [e1]; rfl
    · have holds : ∀ j u, xs[j]? = some u → w.cell? ((⟨g, 0, none⟩ : Addr).add j) = some u := hown'.cells (g := g) rfl
      have hr := Go.Lib.run_append_grow_string (P := P) w t u ty e inf (.int .u8 0) ht hu hi hz ⟨g, 0, none⟩ n cap xs (by rw [h1]; simpa using hxl) holds s (by omega) (by omega) (by rw [hb1]; exact growslice_fits (by omega) (by omega))
      rw [r1] at hr
      injection hr with e1 _
      right; rw [e1]; rfl
theorem builtin_append_str {c : Call} {t u : TypeId} {y z : Operand} (ho : o.op = .call c) (hc : c.callee = .builtin .append) (hx : c.args.toList = [y, z]) (ht : c.argTypes.toList = [t, u]) (ρ : Operand → Value) (w : World) :
    (execOp ρ o).run P w = ((Builtin.append_ #[t, u] o.type #[ρ y, ρ z]).run P w).andThen fun a w' => .ok (.value a) w' := by
  rw [run_builtin hc ho, args_two hx, types_two ht]
  simp only [builtin, List.map_toArray, List.map_cons, List.map_nil]
  rw [Sem.run_bind]
  rfl
/-- append of a string onto nil. -/
theorem good_appstr_nil {c : Call} {t t' e : TypeId} {s : ByteArray} {inf : TypeInfo} (ho : o.op = .call c) (hc : c.callee = .builtin .append)
    (hl : [RV.s (.c (.v (.slice none 0 0))), .s (.c (.v (.string s)))].length = c.args.toList.length) (hv : ∀ (i : Nat) y u, c.args.toList[i]? = some y → [RV.s (.c (.v (.slice none 0 0))), .s (.c (.v (.string s)))][i]? = some u → Opd regs y u)
    (ht : c.argTypes.toList = [t, t']) (hu : P.underlying t = some (.slice e)) (hu' : P.underlying t' = some .string) (hi : P.info? e = some inf) (hz : inf.zero = some (.int .u8 0)) (h1 : inf.size = 1) (hb1 : inf.bytes = 1)
    (h63 : s.size ≤ maxLen) (hb : s.size ≤ 140737488355328) :
    Good P o regs bs nx (.s (.c (.osl nx))) [] [] [(nx, .slc e 1 s.size (strG s))] (nx + 1) := by
  obtain ⟨y, z', hx, hyv, hzv⟩ := opsK_two hl hv
  refine good_new (fun i b h => by simp [look] at h) fun F hs ρ w hr hw => ?_
  have e1 := rel_v (hr y (call_operands ho (i := 0) (by rw [hx]; rfl)) _ hyv)
  have e2 := rel_v (hr z' (call_operands ho (i := 1) (by rw [hx]; rfl)) _ hzv)
  obtain ⟨v', w', r1, r2, r3, r4⟩ := run_append_str (P := P) hu hu' hi hz h1 hb1 o.type w (.slice none 0 0) 0 [] (World.ownsRow_nil w 0 e 1) s (by simpa using h63) (by simpa using hb)
  simp only [Nat.zero_add, List.nil_append] at r2
  have hfr : Fr (fun _ => False) w w' := (grown_fr r3).mono fun x _ hx => by simp [Value.ownBlock] at hx
  refine ⟨v', v', w', by rw [builtin_append_str ho hc hx ht, e1, e2, r1]; rfl, hfr, ?_, fun x hx => ?_, ?_⟩
  · intro hs' O' _ hO _
    exact owns_blk r2 fun i hi' t' ht' u hu' => strG_rel i hi' t' ht' u hu'
  · rw [ownBlock_owner] at hx
    rcases r4 with h4 | h4
    · rw [h4] at hx; simp [Value.ownBlock] at hx
    · rw [h4] at hx; cases hx; exact Nat.le_refl _
  · intro hs' O' _ hn _
    refine ⟨hn, ?_⟩
    rcases r2.2 with ⟨h5, _⟩ | ⟨a, b, d, h5, _⟩ <;> exact ⟨_, _, _, h5⟩
/-- append of a string onto a slice of one's own. -/
theorem good_appstr_own {c : Call} {t t' e : TypeId} {j n : Nat} {g : Nat → Nat → Cell} {s : ByteArray} {inf : TypeInfo} (ho : o.op = .call c) (hc : c.callee = .builtin .append)
    (hl : [RV.s (.c (.osl j)), .s (.c (.v (.string s)))].length = c.args.toList.length) (hv : ∀ (i : Nat) y u, c.args.toList[i]? = some y → [RV.s (.c (.osl j)), .s (.c (.v (.string s)))][i]? = some u → Opd regs y u)
    (ht : c.argTypes.toList = [t, t']) (hu : P.underlying t = some (.slice e)) (hu' : P.underlying t' = some .string) (hi : P.info? e = some inf) (hz : inf.zero = some (.int .u8 0)) (h1 : inf.size = 1) (hb1 : inf.bytes = 1)
    (hbj : look bs j = some (.slc e 1 n g)) (hjn : j < nx) (h63 : n + s.size ≤ maxLen) (hb : n + s.size ≤ 140737488355328) :
    Good P o regs bs nx (.s (.c (.osl nx))) [] [(j, .slc e 1 n g)] [(j, .gone), (nx, .slc e 1 (n + s.size) (catG n g (strG s)))] (nx + 1) where
  sub := fun i c h => by
    simp only [List.singleton_append, look] at h
    split at h
    · rename_i e; subst e; cases h; exact hbj
    · simp at h
  dom := fun i c h => by
    simp only [List.singleton_append, List.cons_append, List.nil_append, look] at h ⊢
    split
    · exact ⟨_, rfl⟩
    · rename_i e1; rw [if_neg e1] at h
      simp at h
  new := fun i c h => by
    simp only [List.singleton_append, List.cons_append, List.nil_append, look] at h ⊢
    by_cases e1 : j = i
    · exact .inl ⟨_, by rw [if_pos e1]⟩
    · rw [if_neg e1] at h
      by_cases e2 : nx = i
      · exact .inr (by omega)
      · rw [if_neg e2] at h
        simp at h
  le := by omega
  run := fun F hs ρ w hr hw hf => by
    obtain ⟨y, z', hx, hyv, hzv⟩ := opsK_two hl hv
    obtain ⟨e0, _⟩ := hr y (call_operands ho (i := 0) (by rw [hx]; rfl)) _ hyv
    have e2 := rel_v (hr z' (call_operands ho (i := 1) (by rw [hx]; rfl)) _ hzv)
    have hj : look ([(j, Blk.slc e 1 n g)] ++ []) j = some (.slc e 1 n g) := by simp [look]
    obtain ⟨h, hh, hbr⟩ := hw.blk j _ hj
    rw [e0] at hh; cases hh
    obtain ⟨xs, hown, hxr⟩ := slc_owns hbr
    obtain ⟨v', w', r1, r2, r3, r4⟩ := run_append_str (P := P) hu hu' hi hz h1 hb1 o.type w (ρ y) n xs hown s h63 hb
    have hfr : Fr (fun x => owner (.slc e 1 n g) (ρ y) = some x) w w' := (grown_fr r3).mono fun x _ hx => by rw [ownBlock_owner]; exact hx
    have heq : look ([(j, Blk.gone), (nx, .slc e 1 (n + s.size) (catG n g (strG s)))] ++ []) = fun i => if j = i then some .gone else if nx = i then some (.slc e 1 (n + s.size) (catG n g (strG s))) else look ([(j, .slc e 1 n g)] ++ []) i := by
      funext i
      simp only [List.cons_append, List.nil_append, look]
      split
      · rfl
      · split
        · rfl
        · rename_i e1 _; simp [e1]
    rw [builtin_append_str ho hc hx ht, e2, r1, heq]
    refine post_move hw hf hj e0 hfr (h1 := v') (fun x hx => ?_) (fun hs' O' hext hO => ?_) (fun hs' O' _ hn _ => ?_)
    · rw [ownBlock_owner] at hx ⊢
      rcases r4 with h4 | h4
      · left; rw [← h4]; exact hx
      · right; rw [h4] at hx; cases hx; exact Nat.le_refl _
    · refine owns_blk r2 fun i hi' t' ht' u hu' => ?_
      have h6 := catG_rel (q := 1) hown.1 hxr (fun i hi t ht u hu => strG_rel i hi t ht u hu) i hi' t' ht' u hu'
      refine Rel.mono hfr.size (fun y' hy hny => hfr.block y' hy fun h' => hny (.inr ⟨j, _, _, hj, e0, h'⟩)) hO _ _ _ _ (fun _ _ h => h) h6
    · refine ⟨hn, ?_⟩
      rcases r2.2 with ⟨h5, _⟩ | ⟨a, b, d, h5, _⟩ <;> exact ⟨_, _, _, h5⟩
theorem isByte_spec {i : TypeInfo} (h : isByte i = true) : i.zero = some (.int .u8 0) ∧ i.size = 1 ∧ i.bytes = 1 := by
  unfold isByte at h
  split at h
  · rename_i hz
    rw [Bool.and_eq_true] at h
    exact ⟨hz, Nat.eq_of_beq_eq_true h.1, Nat.eq_of_beq_eq_true h.2⟩
  · cases h
theorem good_appstr {c : Call} {t t' e : TypeId} {v x : RV} {k : Kont} (hlt : ∀ j b, look bs j = some b → j < nx) (ho : o.op = .call c) (hc : c.callee = .builtin .append) (hl : [v, x].length = c.args.toList.length)
    (hv : ∀ (i : Nat) y u, c.args.toList[i]? = some y → [v, x][i]? = some u → Opd regs y u) (ht : c.argTypes.toList = [t, t']) (hu : P.underlying t = some (.slice e))
    (h : appStrK P bs nx e t' v x k) : ∃ rv rd pre pb nx', k rv rd pre pb nx' ∧ Good P o regs bs nx rv rd pre pb nx' := by
  unfold appStrK at h
  split at h
  case h_2 => exact h.elim
  rename_i i s hu' hi
  split at h
  · rename_i hby
    obtain ⟨hz, h1, hb1⟩ := isByte_spec hby
    obtain ⟨h2, h⟩ := h
    rw [strLen_eq] at h2 h
    exact ⟨_, _, _, _, _, litK_spec _ _ _ _ h, good_appstr_nil ho hc hl hv ht hu hu' hi hz h1 hb1 (by simp only [maxLen]; omega) h2⟩
  · rename_i hby
    obtain ⟨hz, h1, hb1⟩ := isByte_spec hby
    obtain ⟨b, hb, h⟩ := lookK_spec _ _ _ h
    split at h
    · split at h
      · rename_i hq hty
        have hq := Nat.eq_of_beq_eq_true hq
        have hty := Nat.eq_of_beq_eq_true hty
        subst hq hty
        obtain ⟨h2, h⟩ := h
        rw [strLen_eq] at h2 h
        exact ⟨_, _, _, _, _, litK_spec _ _ _ _ h, good_appstr_own ho hc hl hv ht hu hu' hi hz h1 hb1 hb (hlt _ _ hb) (by simp only [maxLen]; omega) h2⟩
      · exact h.elim
    · exact h.elim
  · exact h.elim
/-- A part of a string. -/
theorem good_strCut {t : TypeId} {x l h : Operand} {s : ByteArray} {q q' : IntKind} {a b : Int} (ho : o.op = .slice t x (some l) (some h) none) (ht : P.underlying t = some .string)
    (hx : Opd regs x (.s (.c (.v (.string s))))) (hl : Opd regs l (.s (.c (.v (.int q a))))) (hh : Opd regs h (.s (.c (.v (.int q' b))))) (h0 : 0 ≤ a) (h1 : a ≤ b) (h2 : b ≤ strLen s) :
    Good P o regs bs nx (.s (.c (.v (.string (strCut s a b))))) [] [] [] nx := by
  rw [strLen_eq] at h2
  refine good_pure (sub_nil _) fun F hs' ρ w hr hw => ⟨.string (strCut s a b), ?_, rfl, rfl⟩
  have e1 := rel_v (hr x (by simp [ho, Op.operands]) _ hx)
  have e2 := rel_v (hr l (by simp [ho, Op.operands]) _ hl)
  have e3 := rel_v (hr h (by simp [ho, Op.operands]) _ hh)
  have hrun := run_slice_string (P := P) w t s q q' a b ht h0 h1 h2
  have hrun2 : (Instr.sliceAt t (.string s) (some (.int q a)) (some (.int q' b)) none).run P w = .ok (.string (s.extract a.toNat b.toNat)) w := by
    simp only [Instr.sliceAt, Sem.run_bind, run_underlying ht, Result.andThen_ok]
    exact hrun
  simp only [execOp, ho, e1, e2, e3, Option.map_none, Option.map_some]
  rw [Sem.run_bind, hrun2]
  unfold strCut
  rfl
/-- Bytes as a string. -/
theorem good_bytesStr {x : Operand} {src dst e : TypeId} {vx : RV} {n : Nat} {g : Nat → Nat → Cell} {s : ByteArray} (ho : o.op = .convert src dst x) (hs : P.underlying src = some (.slice e)) (he : P.underlying e = some (.int .u8)) (hd : P.underlying dst = some .string)
    (h1 : Opd regs x vx) (hsub : Sub (look rd) (look bs)) (hread : ∀ F hs (B : Mem) w u, Sub (look rd) B → WRep F hs B w → RVRel (Osum F hs B) w vx hs u → Reads (Osum F hs B) w n 1 g u)
    (hn : n = strLen s) (hg : ∀ i, i < n → g i 0 = strG s i 0) : Good P o regs bs nx (.s (.c (.v (.string s)))) rd [] [] nx := by
  rw [strLen_eq] at hn
  refine good_pure hsub fun F hs' ρ w hr hw => ⟨.string s, ?_, rfl, rfl⟩
  have hrx := hr x (by simp [ho, Op.operands]) _ h1
  obtain ⟨A, cap, xs, ex, _, _, hlen, hrel, _, hcells⟩ := (hread F hs' _ w _ (fun _ _ h => h) hw hrx).list
  have hsl : s.data.toList.length = n := by rw [hn, Array.length_toList]; rfl
  have hst : (⟨s.data.toList.toArray⟩ : ByteArray) = s := by cases s; simp
  have hrun : (convert src dst (ρ x)).run P w = .ok (.string s) w := by
    rw [ex]
    cases A with
    | none =>
      have h0 : n = 0 := Nat.eq_zero_of_not_pos fun h => by obtain ⟨b, off, h2, _⟩ := hcells h; cases h2
      have hs0 : s = ByteArray.empty := by
        have h3 : s.data.toList = [] := List.eq_nil_of_length_eq_zero (by rw [hsl, h0])
        rw [← hst, h3]; rfl
      rw [hs0]; exact run_convert_bytes_nil w src e hs he n cap dst hd
    | some ad =>
      have h3 := run_convert_bytes_back (P := P) w src dst e ad cap s.data.toList hs he hd (fun j hj => by
        have hjn : j < n := by rw [← hsl]; exact hj
        obtain ⟨b, off, h4, h5⟩ := hcells (by omega)
        cases h4
        have hjx : j < xs.length := by rw [hlen, Nat.mul_one]; exact hjn
        rw [h5 j xs[j] (List.getElem?_eq_getElem hjx)]
        have h6 := hrel j hjn 0 (by omega) xs[j] (by rw [Nat.mul_one, Nat.add_zero]; exact List.getElem?_eq_getElem hjx)
        rw [hg j hjn] at h6
        have h7 : xs[j] = .int .u8 ((s.data.toList.getD j 0).toNat : Nat) := h6.1
        rw [h7, List.getD_eq_getElem?_getD, List.getElem?_eq_getElem hj]
        rfl)
      rw [hsl, hst] at h3
      exact h3
  simp only [execOp, ho]
  rw [Sem.run_bind, hrun]
  rfl
end
end Go.Eng
namespace Go.Eng
open Go
section
variable {P : Program} {o : Oper} {regs : List RV} {bs : List (Nat × Blk)} {nx : Nat}
theorem viewT_spec {t : TypeId} {lo hi : Option Operand} {l : Operand} (h : viewT P t lo hi = some l) : ∃ e, P.underlying t = some (.slice e) ∧ lo = some l ∧ hi = none := by
  unfold viewT at h
  split at h
  · split at h
    · cases h
      exact ⟨_, by assumption, rfl, rfl⟩
    · cases h
  · cases h
theorem good_view {t : TypeId} {x l : Operand} {lo hi : Option Operand} {k : Kont} (ho : o.op = .slice t x lo hi none) (hv : viewT P t lo hi = some l) (h : viewK P regs bs nx t x l k) :
    ∃ rv rd pre pb nx', k rv rd pre pb nx' ∧ Good P o regs bs nx rv rd pre pb nx' := by
  obtain ⟨e, ht, rfl, rfl⟩ := viewT_spec hv
  unfold viewK at h
  rw [ht] at h
  simp only at h
  obtain ⟨vx, h1, ha⟩ := opK_spec _ _ _ h
  clear h
  obtain ⟨vl, h2, hb0⟩ := opK_spec _ _ _ ha
  clear ha
  obtain ⟨inf, hi', h⟩ := sizeK_spec hb0
  clear hb0
  split at h
  case h_2 => exact h.elim
  rename_i j q0 a
  obtain ⟨b, hb, hc⟩ := lookK_spec _ _ _ h
  clear h
  split at hc
  case h_2 => exact hc.elim
  rename_i ty q n g
  split at hc
  case h_2 => exact hc.elim
  rename_i hq
  have hq := Nat.eq_of_beq_eq_true hq
  obtain ⟨⟨h3, h4⟩, h⟩ := hc
  refine ⟨_, _, _, _, _, h, good_pure (sub_one hb) fun F hs ρ w hr hw => ?_⟩
  have hx := hr x (by simp [ho, Op.operands]) _ h1
  have hl := rel_v (hr l (by simp [ho, Op.operands]) _ h2)
  have hx0 : hs j = some (ρ x) := hx.1
  obtain ⟨u, hu, hbr⟩ := hw.blk j (.slc ty q n g) (by simp [look])
  rw [hx0] at hu; cases hu
  rcases hbr with ⟨_, h0⟩ | ⟨x0, cap, cs, hv0, e2, _, _, _, _⟩
  · omega
  · have hc := run_cut (P := P) ht hi' w (some ⟨x0, 0, none⟩) n cap (some (.int q0 a)) none none a n cap (.inr ⟨q0, rfl⟩) (.inl ⟨rfl, rfl⟩) (.inl ⟨rfl, rfl⟩) h3 (by omega) (by omega) (Int.le_refl _) e2
    have hne : ¬ ((cap : Int).toNat = a.toNat) := by omega
    rw [if_neg hne] at hc
    refine ⟨.slice (some ⟨x0, a.toNat * q, none⟩) (n - a.toNat) (cap - a.toNat), ?_, x0, n, cap, by rw [hx0, hv0], by omega, e2, rfl⟩
    simp only [execOp, ho, hv0, hl, Option.map_none, Option.map_some]
    rw [Sem.run_bind, hc]
    simp only [Option.map_some, addr_add, Nat.zero_add, Int.toNat_natCast, hq, Result.andThen_ok]
    rfl
theorem run_clear {t e : TypeId} {inf : TypeInfo} {z : Value} (ht : P.underlying t = some (.slice e)) (hi : P.info? e = some inf) (hz : inf.zero = some z) (h1 : z.oneCell' = true) (ty : TypeId) (w : World) (g off n cap : Nat) (cur : Array Value) (et : TypeId)
    (hg : w.heap[g]? = some (.cells cur et (0, 0))) (hn : 0 < n) (hfit : off + n ≤ cur.size) :
    (Builtin.clear_ #[t] ty #[.slice (some ⟨g, off, none⟩) n cap]).run P w = .ok (.tuple #[]) (w.setRow g (cur.toList.take (off + 0) ++ List.replicate n z ++ cur.toList.drop (off + 0 + (List.replicate n z).length)).toArray) := by
  have hzc : (Builtin.zeroCells z.cells n).toList = List.replicate n z := by
    rw [one_cells h1]
    simp [Builtin.zeroCells]
    apply List.ext_getElem
    · simp
    · intro i h1 h2
      simp [Nat.mod_one]
  have hst := run_storeCells_at P g off et (List.replicate n z) 0 cur w hg (by simpa using hfit) (by intro v hv'; rw [List.eq_of_mem_replicate hv']; exact h1)
  have hv : ∀ w, (zeroValue e).run P w = .ok z w := fun w => by simp [zeroValue, typeInfo, hi, hz]
  obtain ⟨m, rfl⟩ : ∃ m, n = m + 1 := ⟨n - 1, by omega⟩
  simp [Builtin.clear_, run_underlying ht, hv, hzc, hst]
theorem good_clear {c : Call} {vs : List RV} {k : Kont} (ho : o.op = .call c) (hc : c.callee = .builtin .clear) (hl : vs.length = c.args.toList.length)
    (hv : ∀ (i : Nat) x v, c.args.toList[i]? = some x → vs[i]? = some v → Opd regs x v) (h : clearK P bs nx vs c.argTypes.toList k) :
    ∃ rv rd pre pb nx', k rv rd pre pb nx' ∧ Good P o regs bs nx rv rd pre pb nx' := by
  unfold clearK at h
  split at h
  case h_2 => exact h.elim
  rename_i j q a n t hty
  split at h
  case h_2 => exact h.elim
  rename_i e ht
  obtain ⟨b, hb, h⟩ := lookK_spec _ _ _ h
  split at h
  case h_2 => exact h.elim
  rename_i ty q' m g
  split at h
  case h_2 => exact h.elim
  rename_i inf hi
  split at h
  case h_2 => exact h.elim
  rename_i z hz
  split at h
  case h_2 => exact h.elim
  rename_i h1 hq hq'
  have hq := Nat.eq_of_beq_eq_true hq
  have hq' := Nat.eq_of_beq_eq_true hq'
  subst hq hq'
  obtain ⟨⟨hn, hm⟩, h⟩ := h
  refine ⟨_, _, _, _, _, h, ?_⟩
  obtain ⟨x, hx, hxv⟩ := opsK_one hl hv
  refine good_upd hb fun F hs ρ w h hr hw hh hbr => ?_
  obtain ⟨x0, m0, cap0, e0, e1, e2, e3⟩ := hr x (call_operands ho (i := 0) (by rw [hx]; rfl)) _ hxv
  rw [hh] at e0
  simp only [Option.some.injEq] at e0
  subst e0
  rcases hbr with ⟨h2, h3⟩ | ⟨b', cap', cs, e5, e6, e6', e7, e8, e9⟩
  · cases h2
  simp only [Value.slice.injEq, Option.some.injEq, Addr.mk.injEq, and_true] at e5
  obtain ⟨rfl, rfl, rfl⟩ := e5
  rw [Nat.mul_one] at e3 e8
  have hrun := run_clear (P := P) ht hi hz h1 o.type w x0 a n (cap0 - a) cs ty e7 hn (by omega)
  have hle : a + (List.replicate n z).length ≤ cs.size := by rw [List.length_replicate]; omega
  have hex : (execOp ρ o).run P w = .ok (.value (.tuple #[])) (w.setRow x0 (cs.toList.take (a + 0) ++ List.replicate n z ++ cs.toList.drop (a + 0 + (List.replicate n z).length)).toArray) := by
    rw [run_builtin hc ho, args_one hx, types_one hty]
    simp only [builtin, List.map_toArray, List.map_cons, List.map_nil, e3]
    rw [Sem.run_bind, hrun]
    rfl
  refine ⟨.tuple #[], _, .inl hex, (fr_setRow w x0 _).mono fun y _ hy => by subst hy; rfl, fun y hy => hy, fun O' hO _ => ?_, fun O' _ => ⟨#[], rfl, rfl, fun i c v hi => by simp at hi⟩⟩
  · refine .inr ⟨x0, cap0, _, rfl, e6, e6', setRow_heap w x0 cs _ ty _ e7, ?_, fun p hp t' ht' u hu => ?_⟩
    · rw [splice_size cs _ a hle, e8, Nat.mul_one]
    · obtain rfl : t' = 0 := by omega
      rw [splice_get cs _ a hle] at hu
      rw [List.length_replicate, Nat.mul_one, Nat.add_zero] at hu
      by_cases hlt : p < a
      · rw [if_neg (by omega)] at hu
        have h6 := e9 p hp 0 ht' u (by rw [Nat.mul_one]; exact hu)
        show Rel O' _ (if p < a then g p 0 else .v z) noNames u
        rw [if_pos hlt]
        exact Rel.mono (by simp) (fun y hy hny => setRow_other w x0 y _ fun e => hny (by subst e; exact .inr ⟨j, .slc ty 1 m0 g, _, by simp [look], hh, rfl⟩)) (fun y hy => .inl (hO y hy)) _ _ _ _ (fun _ _ h => h) h6
      · rw [if_pos (by omega), List.getElem?_replicate, if_pos (by omega)] at hu
        cases hu
        show Rel O' _ (if p < a then g p 0 else .v z) noNames z
        rw [if_neg hlt]
        exact ⟨rfl, h1⟩
end
end Go.Eng
namespace Go.Eng
open Go
section
variable {P : Program} {o : Oper} {regs regs' : List RV} {bs bs' : List (Nat × Blk)} {nx nx' : Nat} {rv : RV} {pre pb : List (Nat × Blk)}
theorem yield_mono {R R' : Value → World → Prop} (h : ∀ v w, R v w → R' v w) {r : Result Next} (h1 : Yield P R r) : Yield P R' r := by
  unfold Yield at h1 ⊢
  split at h1
  · exact h _ _ h1
  · exact h _ _ h1
  · exact Calls.mono h1 fun e w'' ⟨v, he, hr⟩ => ⟨v, he, h _ _ hr⟩
  · exact h1.elim
/-- An operation that reads a slice alone. -/
theorem good_frz {j q n : Nat} {ty : TypeId} {g : Nat → Nat → Cell} (hb : look bs j = some (.slc ty q n g)) (hjn : j < nx)
    (hbs : ∀ i, look bs' i = if j = i then some (.fsl q n g) else look bs i)
    (hreg : ∀ x v', Opd regs' x v' → Opd regs x v' ∨ (v' = .s (.c (.ro n q false g)) ∧ Opd regs x (.s (.c (.osl j)))))
    (hj : look pre j = none) (G : Good P o regs' bs' nx rv [] pre pb nx') : Good P o regs bs nx rv [] ((j, .slc ty q n g) :: pre) ((j, .fsl q n g) :: pb) nx' where
  sub := fun i b h => by
    simp only [List.append_nil, look] at h
    split at h
    · rename_i e; subst e; cases h; exact hb
    · rename_i e
      have := G.sub i b (by simpa using h)
      rw [hbs, if_neg e] at this
      exact this
  dom := fun i b h => by
    simp only [List.append_nil, look] at h ⊢
    split
    · exact ⟨_, rfl⟩
    · rename_i e
      rw [if_neg e] at h
      obtain ⟨b', hb'⟩ := G.dom i b (by simpa using h)
      exact ⟨b', by simpa using hb'⟩
  new := fun i b h => by
    simp only [List.append_nil, look] at h ⊢
    split at h
    · rename_i e; exact .inl ⟨_, by rw [if_pos e]⟩
    · rename_i e
      rcases G.new i b (by simpa using h) with ⟨b0, h0⟩ | h0
      · exact .inl ⟨b0, by rw [if_neg e]; simpa using h0⟩
      · exact .inr h0
  le := G.le
  run := fun F hs ρ w hx hw hf => by
    simp only [List.append_nil] at hx hw ⊢
    have hwj : look ((j, Blk.slc ty q n g) :: pre) j = some (.slc ty q n g) := by simp [look]
    obtain ⟨u, hu, hbr⟩ := hw.blk j _ hwj
    have hl : ∀ i b, look pre i = some b → look ((j, Blk.slc ty q n g) :: pre) i = some b := fun i b h => by
      simp only [look]
      split
      · rename_i e; subst e; rw [hj] at h; cases h
      · exact h
    have hown : ∀ x, own hs (look pre) x → own hs (look ((j, Blk.slc ty q n g) :: pre)) x := by
      rintro x ⟨i, b, h, h1, h2, h3⟩
      exact ⟨i, b, h, hl i b h1, h2, h3⟩
    have hO : ∀ x, Osum F hs (look pre) x → Osum F hs (look ((j, Blk.slc ty q n g) :: pre)) x := fun x h => h.imp id (hown x)
    have hlent : ∀ x h, hs j = some h → owner (Blk.slc ty q n g) h = some x → ¬ Osum F hs (look pre) x := by
      intro x h h1 h2 hx
      rcases hx with hx | ⟨i, b, v, h3, h4, h5⟩
      · exact hw.apart x hx ⟨j, _, h, hwj, h1, h2⟩
      · have := hw.sep i j b _ v h x (hl i b h3) hwj h4 h1 h5 h2
        subst this
        rw [hj] at h3; cases h3
    have hro : ∀ u', hs j = some u' → (∃ a n c, u' = .slice a n c) → Rel (Osum F hs (look pre)) w (.ro n q false g) hs u' := fun u' hu' hsl =>
      cellEq_rel (bs := (j, Blk.slc ty q n g) :: pre) (σ := []) (hc := hs) hw hO (fun i j h hi => by simp at hi) (.ro n q false g) (.osl j)
        (fun j' hj' => by
          have : j' = j := by simpa [lentC] using hj'
          subst this
          exact ⟨_, hwj, hwj, hlent⟩)
        (by
          refine ⟨rfl, ?_⟩
          show lookK ((j, Blk.slc ty q n g) :: pre) j _
          unfold lookK
          rw [Nat.beq_refl]
          exact ⟨rfl, rfl, fun _ _ _ _ => rfl⟩) ⟨hu', hsl⟩
    have hmono : ∀ (v : RV) u', RVRel (Osum F hs (look ((j, Blk.slc ty q n g) :: pre))) w v hs u' → RVRel (Osum F hs (look pre)) w v hs u' := fun v u' h =>
      RVRel.mono (Nat.le_refl _) (fun _ _ _ => rfl) (fun x h => .inl (hO x h)) (fun _ _ h => h) h
    have hw' : WRep F hs (look pre) w := by
      refine ⟨fun i b hi => ?_, fun i i' bi bi' hi hi' x h1 h2 h3 h4 h5 h6 => hw.sep i i' bi bi' hi hi' x (hl _ _ h1) (hl _ _ h2) h3 h4 h5 h6, hw.lt, fun x hx h => hw.apart x hx (hown x h)⟩
      obtain ⟨v, hv, hr⟩ := hw.blk i b (hl i b hi)
      exact ⟨v, hv, BlkRel.mono (Nat.le_refl _) (fun _ _ _ => rfl) (fun x h => .inl (hO x h)) (fun _ _ h => h) (fun _ _ => rfl) hr⟩
    have hrun := G.run F hs ρ w (fun x hxo v' hv' => by
      simp only [List.append_nil]
      rcases hreg x v' hv' with h1 | ⟨rfl, h1⟩
      · exact hmono _ _ (hx x hxo v' h1)
      · have h2 := hx x hxo _ h1
        exact hro _ h2.1 h2.2) (by simpa using hw') hf
    refine yield_mono (fun v w' hp => ?_) hrun
    obtain ⟨hs', h1, h2, h3, h4, h5, h6⟩ := hp
    simp only [List.append_nil] at h1 h2 h5 h6
    have hpbj : look pb j = none := by
      cases e : look pb j with
      | none => rfl
      | some b =>
        rcases G.new j b (by simpa using e) with ⟨b0, h0⟩ | h0
        · rw [show look (pre ++ []) j = look pre j by simp, hj] at h0; cases h0
        · omega
    have hown' : ∀ x, own hs' (look ((j, Blk.fsl q n g) :: pb)) x ↔ own hs' (look pb) x := by
      intro x
      constructor
      · rintro ⟨i, b, h, g1, g2, g3⟩
        simp only [look] at g1
        split at g1
        · cases g1; cases g3
        · exact ⟨i, b, h, g1, g2, g3⟩
      · rintro ⟨i, b, h, g1, g2, g3⟩
        refine ⟨i, b, h, ?_, g2, g3⟩
        simp only [look]
        split
        · rename_i e; subst e; rw [hpbj] at g1; cases g1
        · exact g1
    have hOs : Osum F hs' (look ((j, Blk.fsl q n g) :: pb)) = Osum F hs' (look pb) := by
      funext x
      exact propext ⟨fun h => h.imp id (hown' x).1, fun h => h.imp id (hown' x).2⟩
    have hsl : ∃ a n c, u = .slice a n c := by
      rcases hbr with ⟨e, _⟩ | ⟨x0, cap, cs, e, _⟩
      · exact ⟨_, _, _, e⟩
      · exact ⟨_, _, _, e⟩
    refine ⟨hs', by rw [hOs]; exact h1, ⟨fun i b hi => ?_, fun i i' bi bi' hi hi' x g1 g2 g3 g4 g5 g6 => ?_, h2.lt, fun x hx h => h2.apart x hx ((hown' x).1 h)⟩, h3, h4, h5.mono fun x _ h => hown x h, fun x hx => (h6 x ((hown' x).1 hx)).imp (hown x) id⟩
    · simp only [look] at hi
      split at hi
      · rename_i e
        subst e
        cases hi
        refine ⟨u, h3 _ _ hu, ?_⟩
        rw [hOs]
        have h7 := hro u hu hsl
        exact Rel.mono (O := Osum F hs (look pre)) h5.size (fun x hx hn => h5.block x hx fun h => hn (.inr h)) (fun x hx => hx.elim (fun h => .inl (.inl h)) fun h => (h6 x h).imp .inr id) (.ro n q false g) noNames noNames u (fun _ _ h => h) h7
      · obtain ⟨v', hv', hr⟩ := h2.blk i b hi
        exact ⟨v', hv', by rw [hOs]; exact hr⟩
    · have key : ∀ i b v, look ((j, Blk.fsl q n g) :: pb) i = some b → owner b v = some x → look pb i = some b := by
        intro i b v k1 k2
        simp only [look] at k1
        split at k1
        · cases k1; cases k2
        · exact k1
      exact h2.sep i i' bi bi' hi hi' x (key _ _ _ g1 g5) (key _ _ _ g2 g6) g3 g4 g5 g6
theorem frz1_spec {t : Tmp} {K : List RV → List (Nat × Blk) → Nat × Blk → Nat × Blk → Prop} (h : frz1 regs bs t K) :
    ∃ regs1 bs1 j ty q n g, K regs1 bs1 (j, .slc ty q n g) (j, .fsl q n g) ∧ look bs j = some (.slc ty q n g) ∧ (∀ i, look bs1 i = if j = i then some (.fsl q n g) else look bs i) ∧
      ∀ x v', Opd regs1 x v' → Opd regs x v' ∨ (v' = .s (.c (.ro n q false g)) ∧ Opd regs x (.s (.c (.osl j)))) := by
  unfold frz1 at h
  obtain ⟨v, h1, h⟩ := nthK_spec _ _ _ h
  split at h
  case h_2 => exact h.elim
  rename_i j
  obtain ⟨b, hb, h⟩ := lookK_spec _ _ _ h
  split at h
  case h_2 => exact h.elim
  rename_i ty q n g
  obtain ⟨hlt, h⟩ := setK_spec _ _ _ _ h
  obtain ⟨bs1, h, h3⟩ := putK_spec _ _ _ _ h
  refine ⟨_, _, j, ty, q, n, g, h, hb, h3, fun x v' hx => ?_⟩
  cases x with
  | tmp t' =>
    have hx : (regs.set t (.s (.c (.ro n q false g))))[t']? = some v' := hx
    by_cases e : t = t'
    · subst e
      rw [List.getElem?_set_self hlt] at hx
      cases hx
      exact .inr ⟨rfl, h1⟩
    · rw [List.getElem?_set_ne e] at hx
      exact .inl hx
  | const _ => exact .inl hx
  | func _ => exact .inl hx
  | global _ => exact .inl hx
theorem good_bs {t : TypeId} {len : Nat} {parts : Array (Nat × Operand)} {K : RV → Blk → Prop} (ho : o.op = .buildSlice t len parts) (h : bsK P regs nx t len parts K) :
    ∃ v b, K v b ∧ Good P o regs bs nx v [] [] [(nx, b)] (nx + 1) := by
  unfold bsK at h
  split at h
  · rename_i e ht
    obtain ⟨i, hi, h⟩ := sizeK_spec h
    split at h
    · rename_i hl hs hp
      have hl := Nat.eq_of_beq_eq_true hl
      have hs := Nat.le_of_ble_eq_true hs
      have hp := Nat.le_of_ble_eq_true hp
      obtain ⟨i', z, hi', hz, h, _⟩ := zeroK_spec h
      rw [hi] at hi'; cases hi'
      obtain ⟨l, h1, h2⟩ := good_buildSlice (bs := bs) (nx := nx) ho ht hi hz hl hs hp h
      exact ⟨_, _, h1, h2⟩
    · exact h.elim
  · exact h.elim
theorem good_bsF {t : TypeId} {len : Nat} {parts : Array (Nat × Operand)} {k : Kont} (hlt : ∀ j b, look bs j = some b → j < nx) (ho : o.op = .buildSlice t len parts) (h : bsFK P regs bs nx t len parts k) :
    ∃ rv rd pre pb nx', k rv rd pre pb nx' ∧ Good P o regs bs nx rv rd pre pb nx' := by
  unfold bsFK at h
  split at h
  · obtain ⟨v, b, h1, h2⟩ := good_bs (bs := bs) ho h
    exact ⟨_, _, _, _, _, litK_spec _ _ _ _ h1, h2⟩
  · obtain ⟨regs1, bs1, j, ty, q, n, g, h, hb, hbs, hreg⟩ := frz1_spec h
    obtain ⟨v, b, h1, h2⟩ := good_bs (bs := bs1) ho h
    exact ⟨_, _, _, _, _, litK_spec _ _ _ _ h1, good_frz hb (hlt _ _ hb) hbs hreg rfl h2⟩
  · obtain ⟨regs1, bs1, j, ty, q, n, g, h, hb, hbs, hreg⟩ := frz1_spec h
    obtain ⟨regs2, bs2, j2, ty2, q2, n2, g2, h, hb2, hbs2, hreg2⟩ := frz1_spec h
    obtain ⟨v, b, h1, h2⟩ := good_bs (bs := bs2) ho h
    have hne : ¬ j = j2 := fun e => by
      subst e
      rw [hbs, if_pos rfl] at hb2
      cases hb2
    have hj2 : j2 < nx := by
      rw [hbs, if_neg hne] at hb2
      exact hlt _ _ hb2
    have h3 := good_frz hb2 hj2 hbs2 hreg2 rfl h2
    exact ⟨_, _, _, _, _, litK_spec _ _ _ _ h1, good_frz hb (hlt _ _ hb) hbs hreg (by simp [look, Ne.symm hne]) h3⟩
  · exact h.elim
end
end Go.Eng
