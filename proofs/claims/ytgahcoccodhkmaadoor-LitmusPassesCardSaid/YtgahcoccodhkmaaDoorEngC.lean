/- A part of the walks, and of the machine that proves them (EngC). -/
import Derived.Test.YtgahcoccodhkmaaDoorEngD
import Derived.RangeFuncLeaves
import Derived.Below
import Derived.OpenShut
import Derived.ChangeSlices
import Derived.TacticsIn
import Derived.RecoverIn
set_option linter.unusedVariables false
set_option linter.unusedSimpArgs false
namespace Go.Eng
open Go
inductive Ex where
  | normal
  | exit (id : Nat)
  | ret
  | panic (ch : List PanicEntry)
def enumK : Nat → List Oper → List (Nat × Oper)
  | _, [] => []
  | i, o :: l => (i, o) :: enumK (i + 1) l
def pickK (ops : List Oper) : List Nat → (List (Nat × Oper) → Prop) → Prop
  | [], k => k []
  | i :: l, k => nthK ops i fun o => pickK ops l fun r => k ((i, o) :: r)
def firstId : Code → Option Nat
  | .region id _ _ => some id
  | .seq a _ => firstId a
  | .block _ b => firstId b
  | .loop b => firstId b
  | _ => none
def cutAt (cuts : List Nat) (b : Code) : Bool :=
  match cuts with
  | [] => false
  | cuts => match firstId b with
    | some i => memN i cuts
    | none => false
def forceRV (x : RV) (k : RV → Prop) : Prop :=
  match x with
  | .s (.c c) => cellK c fun c => k (.s (.c c))
  | .s (.agg l) => k (.s (.agg l))
  | .tup l => k (.tup l)
  | .un => k .un
  | .any => k .any
def forceL : List RV → (List RV → Prop) → Prop
  | [], k => k []
  | x :: l, k => forceRV x fun x => forceL l fun l => k (x :: l)
def forceB : List (Nat × Blk) → (List (Nat × Blk) → Prop) → Prop
  | [], k => k []
  | (j, b) :: l, k => litK 400 0 j fun j => match b with
    | .row ty c => forceB l fun l => k ((j, .row ty c) :: l)
    | .slc ty q n g => forceB l fun l => k ((j, .slc ty q n g) :: l)
    | .fsl q n g => forceB l fun l => k ((j, .fsl q n g) :: l)
    | .imap f => forceB l fun l => k ((j, .imap f) :: l)
    | .pmap f => forceB l fun l => k ((j, .pmap f) :: l)
    | .smap f => forceB l fun l => k ((j, .smap f) :: l)
    | .gone => forceB l fun l => k ((j, .gone) :: l)
/-- A state laid open. -/
def forceK (st : St) (k : St → Prop) : Prop :=
  match st with
  | ⟨regs, bs, nx⟩ => forceL regs fun regs => forceB bs fun bs => litK 400 0 nx fun nx => k ⟨regs, bs, nx⟩
theorem forceRV_spec {x : RV} {k : RV → Prop} (h : forceRV x k) : k x := by
  unfold forceRV at h
  split at h
  · exact cellK_spec _ _ h
  all_goals exact h
theorem forceL_spec : ∀ (l : List RV) (k : List RV → Prop), forceL l k → k l
  | [], _, h => h
  | _ :: l, _, h => forceL_spec l _ (forceRV_spec h)
theorem forceB_spec : ∀ (l : List (Nat × Blk)) (k : List (Nat × Blk) → Prop), forceB l k → k l
  | [], _, h => h
  | (j, b) :: l, k, h => by
    unfold forceB at h
    have h := litK_spec _ _ _ _ h
    cases b <;> exact forceB_spec l _ h
theorem forceK_spec {st : St} {k : St → Prop} (h : forceK st k) : k st := by
  obtain ⟨regs, bs, nx⟩ := st
  exact litK_spec _ _ _ _ (forceB_spec _ _ (forceL_spec _ _ h))
structure DrawP (n : Nat) (p : List Nat → Prop) : Prop where
  ex : ∃ π, p π
structure AnyP (ops : List Oper) (sg : List Sig) : Prop where
  ok : anyB ops sg = true
def depsAll (ops : List Oper) : List Nat → List Nat
  | [] => []
  | i :: l => match ops[i]? with
    | some o => addN (deps o) (depsAll ops l)
    | none => depsAll ops l
/-- The operations ahead of those of l, and these. -/
def reach (ops : List Oper) : Nat → List Nat → List Nat
  | 0, l => l
  | k + 1, l => reach ops k (addN (depsAll ops l) l)
def ltB (n : Nat) (l : List Nat) : Bool := l.all fun i => Nat.blt i n
/-- Any order does, up to the last operation, which all others are ahead of. -/
def panyB (ops : List Oper) (sg : List Sig) (o : Oper) : Bool :=
  chk ops sg [] && covN (ops.length - 1) (Sig.is sg) && ltB (ops.length - 1) (Sig.is sg) && ltB (ops.length - 1) (deps o) && covN (ops.length - 1) (reach ops ops.length (deps o))
structure PanyP (ops : List Oper) (sg : List Sig) (o : Oper) : Prop where
  ok : panyB ops sg o = true
structure CutP (st : St) (p : (G : Type) → (G → Prop) → (G → St) → Prop) : Prop where
  ex : ∃ G I S, p G I S
structure CutE (G : Type) (p : G → Prop) : Prop where
  ex : ∃ g, p g
structure LoopP (st : St) (p : (G : Type) → (G → Prop) → (G → St) → (G → Nat) → Prop) : Prop where
  ex : ∃ G I S μ, p G I S μ
structure RangeP (p : (G : Type) → (Nat → G → Prop) → (G → List (Nat × Blk)) → (G → Nat) → Prop) : Prop where
  ex : ∃ G I B N, p G I B N
def setPs : List Tmp → List Sv → List RV → (List RV → Prop) → Prop
  | [], [], regs, k => k regs
  | p :: ps, x :: xs, regs, k => setK regs p (.s x) fun r => setPs ps xs r k
  | _, _, _, _ => False
def okRange (σ : List Nat) (l : List Nat) (k : Prop) : Prop :=
  match nodupB σ, l with
  | true, [] => k
  | _, _ => False
def plainK (l : List Sv) (k : Prop) : Prop :=
  match l.all Sv.one with
  | true => k
  | false => False
def W (P : Program) (Γ : FuncId → Option FSpec) (m : Nat) (cuts : List Nat) (top : Bool) : Code → (Ex → St → Prop) → St → Prop
  | .skip, Q, st => Q .normal st
  | .label _, Q, st => Q .normal st
  | .region _ ops draw, Q, st => match draw with
    | false => match lastPan Γ ops.toList with
      | false => runT P Γ ops.toList (enumK 0 ops.toList) st fun _ st' => Q .normal st'
      | true => RegP (runT P Γ ops.toList (enumK 0 ops.toList) st fun _ st' => Q .normal st')
        (runT P Γ ops.toList (enumK 0 (initL ops.toList)) st fun _ st' => lastK ops.toList fun o => panOpK Γ o st'.regs st'.blks st'.next fun ch bs' nx' => Q (.panic ch) ⟨[], bs', nx'⟩)
    | true => match lastPan Γ ops.toList with
      | false => DrawP ops.toList.length fun π => pickK ops.toList π fun l => runT P Γ ops.toList l st fun sg st' => Need (AnyP ops.toList sg) (Q .normal st')
      | true => RegP (DrawP ops.toList.length fun π => pickK ops.toList π fun l => runT P Γ ops.toList l st fun sg st' => Need (AnyP ops.toList sg) (Q .normal st'))
        (runT P Γ ops.toList (enumK 0 (initL ops.toList)) st fun sg st' => lastK ops.toList fun o => Need (PanyP ops.toList sg o) (panOpK Γ o st'.regs st'.blks st'.next fun ch bs' nx' => Q (.panic ch) ⟨[], bs', nx'⟩))
  | .seq a b, Q, st => match cutAt cuts b with
    | false => W P Γ m cuts top a (fun e st' => match e with
      | .normal => W P Γ m cuts top b Q st'
      | e => Q e st') st
    | true => CutP st fun G I S => W P Γ m cuts top a (fun e st' => match e with
      | .normal => CutE G fun g => EntK m st' (S g) ∧ I g
      | e => Q e st') st ∧ ∀ g, I g → forceK (S g) fun st' => W P Γ m cuts top b Q st'
  | .cond c a b, Q, st => opK st.regs c fun v => match v with
    | .s (.c .bq) => W P Γ m cuts top a Q st ∧ W P Γ m cuts top b Q st
    | .s (.c (.v (.bool t))) => Br t (W P Γ m cuts top a Q st) (W P Γ m cuts top b Q st)
    | _ => False
  | .block id b, Q, st => W P Γ m cuts top b (fun e st' => match e with
    | .exit i => match Nat.beq i id with
      | true => Q .normal st'
      | false => Q (.exit i) st'
    | e => Q e st') st
  | .loop b, Q, st => LoopP st fun G I S μ => (CutE G fun g => EntK m st (S g) ∧ I g) ∧ ∀ g, I g → forceK (S g) fun st => W P Γ m cuts top b (fun e st' => match e with
    | .normal => CutE G fun g' => EntK m st' (S g') ∧ μ g' < μ g ∧ I g'
    | e => Q e st') st
  | .exit i, Q, st => Q (.exit i) st
  | .ret, Q, st => Q .ret st
  | .rangeFunc f ps assign body, Q, st => match top with
    | false => False
    | true => opK st.regs f fun v => match v with
      | .s (.c (.fn fid caps)) => match Γ fid with
        | none => False
        | some S => CallP S.G fun g σ => match S.yields g with
          | none => False
          | some (cnt, item) => σ.length = (S.blks g).length ∧ rvsEq st.blks σ (S.args g) (caps.map Cap.rv) ∧ blksEq st.blks σ (S.blks g) ∧ S.pre g ∧ okRange σ (lentRs (S.args g) (caps.map Cap.rv))
            (RangeP fun G I B N => (CutE G fun g' => EntK st.next ⟨[], delB σ st.blks, st.next⟩ ⟨[], B g', N g'⟩ ∧ I 0 g') ∧
              (∀ k g', k < cnt → I k g' → forceB (B g') fun bs => litK 400 0 (N g') fun nx => plainK (item k) (setPs ps.toList (item k) st.regs fun regs =>
                W P Γ nx cuts false assign (fun e st1 => match e with
                  | .normal => W P Γ st1.next cuts false body (fun e st2 => match e with
                    | .normal => CutE G fun g2 => EntK st.next ⟨[], st2.blks, st2.next⟩ ⟨[], B g2, N g2⟩ ∧ I (k + 1) g2
                    | .panic _ => False
                    | e => Q e ⟨st.regs, st2.blks, st2.next⟩) st1
                  | _ => False) ⟨regs, bs, nx⟩)) ∧
              (∀ g', I cnt g' → forceB (B g') fun bs => litK 400 0 (N g') fun nx => Q .normal ⟨st.regs, bs, nx⟩))
      | _ => False
  | _, _, _ => False
/-- The post of the model's code, of that of the abstract machine's. -/
def postOf (d : Dfr) (F : Nat → Prop) (O0 : Nat → Prop) (hs0 : Names) (w0 : World) (Q : Ex → St → Prop) : Exit → Act → World → Prop
  | .normal, a, w => ∃ st, Q .normal st ∧ RepS d F O0 hs0 w0 st a w
  | .exit i, a, w => ∃ st, Q (.exit i) st ∧ RepS d F O0 hs0 w0 st a w
  | .ret, a, w => ∃ st, Q .ret st ∧ RepS d F O0 hs0 w0 st a w
  | .panic ch, a, w => ∃ st, Q (.panic ch) st ∧ RepS d F O0 hs0 w0 st a w
  | _, _, _ => False
theorem enumK_spec {ops : List Oper} : ∀ (l : List Oper) (i : Nat), (∀ j, l[j]? = ops[i + j]?) → ∀ p ∈ enumK i l, ops[p.1]? = some p.2
  | [], _, _, p, hp => by cases hp
  | o :: l, i, h, p, hp => by
    rcases List.mem_cons.1 hp with rfl | hp
    · have := h 0; simpa using this.symm
    · exact enumK_spec l (i + 1) (fun j => by have := h (j + 1); rw [show i + 1 + j = i + (j + 1) by omega]; simpa using this) p hp
theorem enumK_fst : ∀ (l : List Oper) (i : Nat), (enumK i l).map Prod.fst = List.range' i l.length
  | [], i => rfl
  | o :: l, i => by simp [enumK, enumK_fst l, List.range'_succ]
theorem pickK_spec {ops : List Oper} : ∀ (π : List Nat) (k : List (Nat × Oper) → Prop), pickK ops π k → ∃ l, k l ∧ ∀ p ∈ l, ops[p.1]? = some p.2
  | [], k, h => ⟨[], h, fun p hp => by cases hp⟩
  | i :: π, k, h => by
    obtain ⟨o, h1, h⟩ := nthK_spec _ _ _ h
    obtain ⟨l, h2, h3⟩ := pickK_spec π _ h
    refine ⟨_, h2, fun p hp => ?_⟩
    rcases List.mem_cons.1 hp with rfl | hp
    · exact h1
    · exact h3 p hp
section
variable {P : Program} {Γ : FuncId → Option FSpec} {F : Nat → Prop} {O0 : Nat → Prop} {hs0 : Names} {w0 : World} {m : Nat} {d : Dfr}
theorem ent_rep (hm : ∀ j, m ≤ j → hs0 j = none) {st st' : St} {a : Act} {w : World} (h : RepS d F O0 hs0 w0 st a w) (he : EntK m st st') : RepS d F O0 hs0 w0 st' a w := by
  obtain ⟨⟨zs, σ, he⟩⟩ := he
  obtain ⟨st2, ⟨h5, h6, h1, h2, h3, h4⟩, hrep⟩ := binds_rep zs st _ a w h he
  have hl := lenB_spec _ _ h1
  obtain ⟨hs, g1, g2, g3, g4⟩ := ent_core hrep hm h2 h3 h4 h5 h6
  exact ⟨⟨hs, g1, g2, fun j hj => g3 j (by omega), g4⟩, hrep.defers⟩
theorem rep_drawn {st : St} {a : Act} {w : World} (h : RepS d F O0 hs0 w0 st a w) (n : Nat) : RepS d F O0 hs0 w0 st a { w with drawn := n } := by
  obtain ⟨⟨hs, hw, hR, hf, hS⟩, hd⟩ := h
  have hc : ∀ (O : Nat → Prop) (b : Blk) (hs : Names) (u : Value), BlkRel O w hs b u → BlkRel O { w with drawn := n } hs b u := fun O b hs u h =>
    BlkRel.mono (w := w) (w' := { w with drawn := n }) (Nat.le_refl _) (fun _ _ _ => rfl) (fun _ h => .inl h) (fun _ _ h => h) (fun _ _ => rfl) h
  refine ⟨⟨hs, ⟨fun j b hj => ?_, hw.sep, hw.lt, hw.apart⟩, fun t rv ht => ?_, hf, ⟨hS.names, ⟨hS.fr.os, hS.fr.tape, hS.fr.output, hS.fr.size, hS.fr.block⟩, hS.own⟩⟩, hd⟩
  · obtain ⟨u, hu, hr⟩ := hw.blk j b hj
    exact ⟨u, hu, hc _ _ _ _ hr⟩
  · obtain ⟨u, hu, hr⟩ := hR t rv ht
    exact ⟨u, hu, RVRel.mono (w := w) (w' := { w with drawn := n }) (Nat.le_refl _) (fun _ _ _ => rfl) (fun _ h => .inl h) (fun _ _ h => h) hr⟩
theorem least {p : Nat → Prop} (h : ∃ n, p n) : ∃ n, p n ∧ ∀ k, p k → n ≤ k := by
  classical
  obtain ⟨n, hn⟩ := h
  induction n using Nat.strongRecOn with
  | _ n ih =>
    by_cases h : ∃ k, k < n ∧ p k
    · obtain ⟨k, hk, hpk⟩ := h
      exact ih k hk hpk
    · exact ⟨n, hn, fun k hk => by
        rcases Nat.lt_or_ge k n with h' | h'
        · exact (h ⟨k, h', hk⟩).elim
        · exact h'⟩
/-- The code, walked in a round. -/
def InRound (P : Program) (Γ : FuncId → Option FSpec) (cuts : List Nat) (c : Code) : Prop :=
  ∀ (l : Nat) (d : Dfr) (F : Nat → Prop) (O0 : Nat → Prop) (hs0 : Names) (w0 : World) (m : Nat), d.n ≤ w0.heap.size → (∀ j, m ≤ j → hs0 j = none) → ∀ (Q : Ex → St → Prop) (st : St) (a : Act) (w : World), RepS d F O0 hs0 w0 st a w →
    W P Γ m cuts false c Q st → c.wpIn (Fence.wide.inRound l) 0 P (postOf d F O0 hs0 w0 Q) a w
theorem setPs_spec : ∀ (ps : List Tmp) (xs : List Sv) (regs : List RV) (k : List RV → Prop), setPs ps xs regs k → ps.length = xs.length ∧ ∃ regs', k regs' ∧
    ∀ {O : Nat → Prop} {w : World} {hs : Names} {tmps : Array Value}, (∀ x ∈ xs, x.one = true) → Regs O w hs (fun t => regs[t]?) tmps →
      Regs O w hs (fun t => regs'[t]?) ((ps.zip (xs.map valSv)).foldl (fun t (p, v) => t.setIfInBounds p v) tmps)
  | [], [], regs, k, h => ⟨rfl, regs, h, fun _ h => h⟩
  | p :: ps, x :: xs, regs, k, h => by
    obtain ⟨h1, h⟩ := setK_spec _ _ _ _ h
    obtain ⟨h2, regs', h3, h4⟩ := setPs_spec ps xs _ k h
    refine ⟨by simp [h2], regs', h3, fun {O w hs tmps} hp hr => ?_⟩
    simp only [List.map_cons, List.zip_cons_cons, List.foldl_cons]
    refine h4 (fun y hy => hp y (by simp [hy])) fun t rv ht => ?_
    have hx := hp x (by simp)
    by_cases e : p = t
    · subst e
      have ht : (regs.set p (.s x))[p]? = some rv := ht
      rw [List.getElem?_set_self h1] at ht
      cases ht
      have hb : (regs[p]?).isSome := by rw [List.getElem?_eq_getElem h1]; rfl
      obtain ⟨r0, hr0⟩ := Option.isSome_iff_exists.1 hb
      obtain ⟨u, hu, _⟩ := hr p r0 hr0
      have hlt := (Array.getElem?_eq_some_iff.1 hu).1
      refine ⟨valSv x, by simp [hlt], ?_⟩
      exact one_rel hx
    · have ht : (regs.set p (.s x))[t]? = some rv := ht
      rw [List.getElem?_set_ne e] at ht
      obtain ⟨u, hu, hru⟩ := hr t rv ht
      exact ⟨u, by simp [e, hu], hru⟩
  | [], _ :: _, _, _, h => h.elim
  | _ :: _, [], _, _, h => h.elim
theorem plainK_spec {l : List Sv} {k : Prop} (h : plainK l k) : (∀ x ∈ l, x.one = true) ∧ k := by
  unfold plainK at h
  split at h
  · rename_i h1
    exact ⟨List.all_eq_true.1 h1, h⟩
  · exact h.elim
set_option maxHeartbeats 1000000 in
theorem range_sound (hΓ : GOK P Γ) (hd0 : d.n ≤ w0.heap.size) (hdn : d.no = false) {cuts : List Nat} {n : Nat} {f : Operand} {ps : Array Tmp} {assign body : Code} (hA : InRound P Γ cuts assign) (hB : InRound P Γ cuts body) {Q : Ex → St → Prop} {st : St} {a : Act} {w : World} (hr : RepS d F O0 hs0 w0 st a w)
    (h : opK st.regs f fun v => match v with
      | .s (.c (.fn fid caps)) => match Γ fid with
        | none => False
        | some S => CallP S.G fun g σ => match S.yields g with
          | none => False
          | some (cnt, item) => σ.length = (S.blks g).length ∧ rvsEq st.blks σ (S.args g) (caps.map Cap.rv) ∧ blksEq st.blks σ (S.blks g) ∧ S.pre g ∧ okRange σ (lentRs (S.args g) (caps.map Cap.rv))
            (RangeP fun G I B N => (CutE G fun g' => EntK st.next ⟨[], delB σ st.blks, st.next⟩ ⟨[], B g', N g'⟩ ∧ I 0 g') ∧
              (∀ k g', k < cnt → I k g' → forceB (B g') fun bs => litK 400 0 (N g') fun nx => plainK (item k) (setPs ps.toList (item k) st.regs fun regs =>
                W P Γ nx cuts false assign (fun e st1 => match e with
                  | .normal => W P Γ st1.next cuts false body (fun e st2 => match e with
                    | .normal => CutE G fun g2 => EntK st.next ⟨[], st2.blks, st2.next⟩ ⟨[], B g2, N g2⟩ ∧ I (k + 1) g2
                    | .panic _ => False
                    | e => Q e ⟨st.regs, st2.blks, st2.next⟩) st1
                  | _ => False) ⟨regs, bs, nx⟩)) ∧
              (∀ g', I cnt g' → forceB (B g') fun bs => litK 400 0 (N g') fun nx => Q .normal ⟨st.regs, bs, nx⟩))
      | _ => False) : (Code.rangeFunc f ps assign body).wpIn Fence.wide n P (postOf d F O0 hs0 w0 Q) a w := by
  obtain ⟨v, h1, h⟩ := opK_spec _ _ _ h
  split at h
  case h_2 => exact h.elim
  rename_i fid caps
  cases hS : Γ fid with
  | none => rw [hS] at h; exact h.elim
  | some S =>
  rw [hS] at h
  have hM := hΓ fid S hS
  obtain ⟨⟨γ, σ, h⟩⟩ := h
  split at h
  · exact h.elim
  rename_i cnt item hy
  obtain ⟨h2, h3, h4, h5, h⟩ := h
  unfold okRange at h
  split at h
  case h_2 => exact h.elim
  rename_i hnd hlent
  obtain ⟨⟨G, I, B, N, ⟨⟨⟨g0, hent0, hI0⟩⟩, hround, hdone⟩⟩⟩ := h
  obtain ⟨⟨hs, hw, hR, hf, hSi⟩, hd⟩ := hr
  -- the function's value
  obtain ⟨arr, ev, hasz, hcaps⟩ : ∃ arr : Array Value, a.eval f = .func (.func fid) #[] arr ∧ arr.size = caps.length ∧ ∀ (i : Nat) (c : Cap) (x : Value), caps[i]? = some c → arr[i]? = some x → CapRel hs c x := by
    have := eval_rel hR (opd_opdF h1)
    exact this
  obtain ⟨fn0, e4, e5, e6⟩ := hM.body
  refine wpIn_rangeFunc fun fnI _ => ?_
  obtain ⟨rec, hrec⟩ : ∃ rec : LoopState → Option Code → Loop, rec = fun s pe => { state := s, pending := pe, fn := fnI, tmps := a.tmps, params := ps, assign, body, defers := w.heap.size } := ⟨_, rfl⟩
  obtain ⟨W1, hW1⟩ : ∃ W1, (w.alloc (.deferred (some []))).alloc (.loop (rec .ready none)) = W1 := ⟨_, rfl⟩
  have hL1 : W1.heap[w.heap.size + 1]? = some (.loop (rec .ready none)) := by
    rw [← hW1]; have := World.alloc_heap_new (w.alloc (.deferred (some []))) (.loop (rec .ready none)); rwa [World.size_alloc] at this
  have hK1 : W1.heap[w.heap.size]? = some (.deferred (some [])) := by
    rw [← hW1]
    show ((w.alloc (.deferred (some []))).heap.push _)[w.heap.size]? = _
    rw [Array.getElem?_push, if_neg (by simp)]
    exact World.alloc_heap_new w _
  have hlow1 : ∀ x, x < w.heap.size → W1.heap[x]? = w.heap[x]? := by
    intro x hx
    rw [← hW1]
    show ((w.heap.push _).push _)[x]? = _
    rw [Array.getElem?_push, if_neg (by simp; omega), Array.getElem?_push, if_neg (by omega)]
  have hsz1 : W1.heap.size = w.heap.size + 2 := by rw [← hW1]; simp
  have hoth1 : Oth w.heap.size w W1 := by
    rw [← hW1]
    exact (Oth.alloc _ w _ (Nat.le_refl _)).trans (Oth.alloc _ _ _ (by simp))
  have hDa : ∀ D ∈ (hd.choose), D < w.heap.size := fun D hD => (Array.getElem?_eq_some_iff.1 (hd.choose_spec.2.2.1 D hD).2).1
  -- what holds between rounds
  obtain ⟨F2, hF2, hF3, hst⟩ := range_start (d := 0) (σ := σ) (a2 := { tmps := #[], defers := [] }) hw hf (DOK.nil _ w)
  have hst1 : RepS 0 F2 (own hs (look (delB σ st.blks))) hs w ⟨[], delB σ st.blks, st.next⟩ { tmps := #[], defers := [] } W1 := rep_oth hst hoth1 (DOK.nil _ _)
  have hf' : ∀ j, st.next ≤ j → hs j = none := hf
  let dD : Deferred := { target := .collected w.heap.size, args := #[] }
  let J : Nat → World → Prop := fun k W => (∃ g', I k g' ∧ RepS 0 F2 (own hs (look (delB σ st.blks))) hs w ⟨[], B g', N g'⟩ { tmps := #[], defers := [] } W) ∧ W.heap[w.heap.size + 1]? = some (.loop (rec .ready none)) ∧
    W.heap[w.heap.size]? = some (.deferred (some [])) ∧ DOK d a.defers W
  let Jx : World → Prop := fun W => ∃ c, (∃ st2 : St, (c = .ret ∧ Q .ret ⟨st.regs, st2.blks, st2.next⟩ ∨ ∃ i, c = .exit i ∧ Q (.exit i) ⟨st.regs, st2.blks, st2.next⟩) ∧
    RepS 0 F2 (own hs (look (delB σ st.blks))) hs w ⟨[], st2.blks, st2.next⟩ { tmps := #[], defers := [] } W) ∧ W.heap[w.heap.size + 1]? = some (.loop (rec .done (some c))) ∧ W.heap[w.heap.size]? = some (.deferred (some [])) ∧ DOK d a.defers W
  -- the callee's view
  have hsubP : Sub (look (blksAt st.blks σ)) (look st.blks) := by
    intro j b hj
    exact (blksAt_spec σ _ (look_mem _ j b hj)).2
  have hw1 : WRep F hs (look st.blks) W1 := hw.oth hoth1
  obtain ⟨hOp, hBp⟩ := part_rep hsubP hw1
  have hcv := call_view hM γ h2 h3 h4 hnd (lent := []) (by rw [hlent]; rfl) (fun p hp => by cases hp) (by
    unfold disjB
    rw [List.all_eq_true]
    intro x _
    rfl) (vals := arr) (hs := hs) (w := W1) (by simpa using hBp) ⟨by simp [hasz], fun i c x hc hx => by
      simp only [List.getElem?_map, Option.map_eq_some_iff] at hc
      obtain ⟨c0, hc0, rfl⟩ := hc
      have := hcaps i c0 x hc0 hx
      cases c0 with
      | ptr j o => exact this
      | v y => exact this⟩
  obtain ⟨_, _, _, _, hv1, hv2, hv3⟩ := hcv
  have hit := hM.iter γ cnt item hy h5 _ _ W1 arr hv1 hv2 hv3
  have hkeep : ∀ k W, J k W → W1.heap.size ≤ W.heap.size ∧ ∀ (x : Nat) (o : Obj), W1.heap[x]? = some o → cm o = true → ¬ (F x ∨ own hs (fun j => match look (blksAt st.blks σ) j with | some _ => none | none => look st.blks j) x) → W.heap[x]? = some o := by
    rintro k W ⟨⟨g', _, hr'⟩, hl, hk, _⟩
    obtain ⟨⟨hs', hw', _, _, hS'⟩, _⟩ := hr'
    refine ⟨by have := (Array.getElem?_eq_some_iff.1 hl).1; omega, fun x o hx ho hX => ?_⟩
    have hlt : x < w.heap.size := by
      rcases Nat.lt_or_ge x w.heap.size with h | h
      · exact h
      · have hx2 := (Array.getElem?_eq_some_iff.1 hx).1
        rcases (by omega : x = w.heap.size ∨ x = w.heap.size + 1) with rfl | rfl
        · rw [hK1] at hx; cases hx; cases ho
        · rw [hL1] at hx; cases hx; cases ho
    rw [hS'.fr.block x hlt, ← hlow1 x hlt]
    · exact hx
    · intro hown
      refine hX (.inr ?_)
      obtain ⟨j, b, u, hm, hb, hu, hox⟩ := own_delB hown
      · refine ⟨j, b, u, ?_, hu, hox⟩
        show (match look (blksAt st.blks σ) j with | some _ => none | none => look st.blks j) = some b
        cases hp : look (blksAt st.blks σ) j with
        | none => exact hb
        | some c =>
          have := (blksAt_spec σ _ (look_mem _ j c hp)).1
          rw [memN_iff.2 this] at hm; cases hm
  refine ⟨w.heap.size + 1, [dD], W1, { target := .fn (.func fid) arr, args := #[.func (.yield (w.heap.size + 1)) #[] #[]] }, W1, fid,
    #[.func (.yield (w.heap.size + 1)) #[] #[]] ++ arr, W1, ?_, ?_, ?_, ?_, (fun h => by cases h), ?_⟩
  · rw [← hW1, hrec]; exact run_enterLoop_outer _ _ _ _ _
  · simp only [resolve, ev]
    simp [Deferred.ofValue]
    rfl
  · intro f' _; trivial
  · have hb' : ¬ fn0.body = none := by
      intro h; rw [h] at e5; cases e5
    have hn' : ¬ fn0.name = "runtime.NumGoroutine" := by simpa using e6
    simp [invoke, callFunc, e4, hn', hb']
  · refine CallsIn.more (CallsIn.mono (hit (w.heap.size + 1) J Jx hkeep ?_ ?_) ?_) (Nat.zero_le _)
    · -- a round
      rintro k hk W ⟨⟨g', hIg, hr'⟩, hl, hkD, hdW⟩
      obtain ⟨⟨hsW, hwW, _, hfW, hSW⟩, _⟩ := hr'
      have hz := hround k g' hk hIg
      have hz := forceB_spec _ _ hz
      have hz := litK_spec _ _ _ _ hz
      obtain ⟨hpl, hz⟩ := plainK_spec hz
      obtain ⟨hlen, regs', hz, hregs⟩ := setPs_spec _ _ _ _ hz
      have hlt : w.heap.size + 1 < W.heap.size := (Array.getElem?_eq_some_iff.1 hl).1
      have hyd := run_yield (P := P) (args := ((item k).map valSv).toArray) hl (by rw [hrec]; simp; simpa using hlen.symm)
      rw [hrec] at hyd
      -- the registers, in this world
      have hO1 : ∀ x, own hs (look (delB σ st.blks)) x → own hs (look st.blks) x := by
        rintro x hx
        obtain ⟨j, b, u, _, hb, hu, ho⟩ := own_delB hx
        exact ⟨j, b, u, hb, hu, ho⟩
      have hRW : Regs (Osum F2 hsW (look (B g'))) W hsW (fun t => st.regs[t]?) a.tmps := by
        intro t rv ht
        obtain ⟨u, hu, hru⟩ := hR t rv ht
        refine ⟨u, hu, RVRel.mono hSW.fr.size (fun x hx hn => hSW.fr.block x hx fun h => hn (.inr (hO1 x h))) (fun x hx => ?_) hSW.names hru⟩
        rcases hx with hx | hx
        · exact .inl (hF3 x hx)
        · exact (hSW.own x hx).imp (fun h => .inr (hO1 x h)) id
      have hrep : RepS 0 F2 (own hsW (look (B g'))) hsW W ⟨regs', B g', N g'⟩ { tmps := (ps.toList.zip ((item k).map valSv)).foldl (fun t (p, v) => t.setIfInBounds p v) a.tmps, defers := [] } W :=
        ⟨⟨hsW, hwW, hregs hpl hRW, hfW, ⟨fun _ _ h => h, Fr.refl _ _, fun x hx => .inl hx⟩⟩, DOK.nil _ _⟩
      have htm : ∀ tm : Array Value, ((ps.zip ((item k).map valSv).toArray).foldl (fun t (p, v) => t.setIfInBounds p v) tm) = (ps.toList.zip ((item k).map valSv)).foldl (fun t (p, v) => t.setIfInBounds p v) tm := by
        intro tm
        rw [← Array.foldl_toList, Array.toList_zip]
      refine ⟨fnI, _, assign, body, hyd, roundIn_of_wpIn trivial ?_⟩
      simp only [htm]
      refine wpIn_mono (hA _ _ _ _ _ _ _ (Nat.zero_le _) hfW _ _ _ _ hrep hz) fun e a1 w1 he => ?_
      cases e with
      | exit i => obtain ⟨_, h, _⟩ := he; exact h.elim
      | ret => obtain ⟨_, h, _⟩ := he; exact h.elim
      | goto _ => exact he.elim
      | panic _ => obtain ⟨_, h, _⟩ := he; exact h.elim
      | outgrown => exact he.elim
      | normal =>
      obtain ⟨st1, hz1, hr1⟩ := he
      have hl1 := rep_keeps hwW hr1 hl rfl
      have hk1 := rep_keeps hwW hr1 hkD rfl
      have hd1 : DOK d a.defers w1 := hdW.mono (Nat.le_refl _) fun D o hD => rep_keeps hwW hr1 hD rfl
      have hlt1 : w.heap.size + 1 < w1.heap.size := (Array.getElem?_eq_some_iff.1 hl1).1
      have hSW' := hSW
      have hr1' : RepS 0 F2 (own hs (look (delB σ st.blks))) hs w st1 a1 w1 := rep_base hSW hr1
      refine ⟨_, run_beginRound hl1 (by rw [hrec]), ?_⟩
      have hoth2 : Oth w.heap.size w1 (w1.putObj (w.heap.size + 1) (.loop { rec .ready none with state := .busy })) := Oth.put _ hl1 rfl (by omega)
      have hl2 : (w1.putObj (w.heap.size + 1) (.loop { rec .ready none with state := .busy })).heap[w.heap.size + 1]? = some (.loop { rec .ready none with state := .busy }) := World.putObj_heap_same hlt1
      have hk2 : (w1.putObj (w.heap.size + 1) (.loop { rec .ready none with state := .busy })).heap[w.heap.size]? = some (.deferred (some [])) := (World.putObj_heap_other (by omega)).trans hk1
      have hd2 : DOK d a.defers (w1.putObj (w.heap.size + 1) (.loop { rec .ready none with state := .busy })) := hd1.mono (Nat.le_refl _) fun D o hD => by
        have : D ≠ w.heap.size + 1 := by rintro rfl; rw [hl1] at hD; cases hD
        exact (World.putObj_heap_other this).trans hD
      have hda : DOK 0 a1.defers (w1.putObj (w.heap.size + 1) (.loop { rec .ready none with state := .busy })) := hr1'.defers.mono (Nat.le_refl _) fun D o hD => by
        have : D ≠ w.heap.size + 1 := by rintro rfl; rw [hl1] at hD; cases hD
        exact (World.putObj_heap_other this).trans hD
      obtain ⟨⟨hs1, hw1', hR1, hf1, hS1⟩, _⟩ := rep_oth hr1' hoth2 hda
      generalize (w1.putObj (w.heap.size + 1) (.loop { rec .ready none with state := .busy })) = w1b at *
      have hrepb : RepS 0 F2 (own hs1 (look st1.blks)) hs1 w1b st1 a1 w1b := ⟨⟨hs1, hw1', hR1, hf1, ⟨fun _ _ h => h, Fr.refl _ _, fun x hx => .inl hx⟩⟩, hda⟩
      refine wpIn_mono (hB _ _ _ _ _ _ _ (Nat.zero_le _) hf1 _ _ _ _ hrepb hz1) fun e a2 w2 he => ?_
      have fin : ∀ st2 : St, RepS 0 F2 (own hs1 (look st1.blks)) hs1 w1b st2 a2 w2 → ∀ jump : Option Code,
          (Instr.endRound (w.heap.size + 1) jump).run P w2 = .ok (.bool jump.isNone) (w2.putObj (w.heap.size + 1) (.loop (rec (if jump.isNone then .ready else .done) jump))) ∧
          (w2.putObj (w.heap.size + 1) (.loop (rec (if jump.isNone then .ready else .done) jump))).heap[w.heap.size + 1]? = some (.loop (rec (if jump.isNone then .ready else .done) jump)) ∧
          (w2.putObj (w.heap.size + 1) (.loop (rec (if jump.isNone then .ready else .done) jump))).heap[w.heap.size]? = some (.deferred (some [])) ∧
          DOK d a.defers (w2.putObj (w.heap.size + 1) (.loop (rec (if jump.isNone then .ready else .done) jump))) ∧
          RepS 0 F2 (own hs (look (delB σ st.blks))) hs w ⟨[], st2.blks, st2.next⟩ { tmps := #[], defers := [] } (w2.putObj (w.heap.size + 1) (.loop (rec (if jump.isNone then .ready else .done) jump))) := by
        intro st2 h2 jump
        have hl3 := rep_keeps hw1' h2 hl2 rfl
        have hk3 := rep_keeps hw1' h2 hk2 rfl
        have hd3 : DOK d a.defers w2 := hd2.mono (Nat.le_refl _) fun D o hD => rep_keeps hw1' h2 hD rfl
        have hlt3 : w.heap.size + 1 < w2.heap.size := (Array.getElem?_eq_some_iff.1 hl3).1
        have he := run_endRound (P := P) jump hl3
        refine ⟨?_, World.putObj_heap_same hlt3, (World.putObj_heap_other (by omega)).trans hk3, hd3.mono (Nat.le_refl _) fun D o hD => ?_, ?_⟩
        · rw [hrec] at he ⊢; exact he
        · have : D ≠ w.heap.size + 1 := by rintro rfl; rw [hl3] at hD; cases hD
          exact (World.putObj_heap_other this).trans hD
        · exact rep_oth (rep_drop (rep_base hS1 h2)) (Oth.put _ hl3 rfl (by omega)) (DOK.nil _ _)
      cases e with
      | normal =>
        obtain ⟨st2, ⟨⟨g2, hent, hI2⟩⟩, h2⟩ := he
        obtain ⟨f1, f2, f3, f4, f5⟩ := fin st2 h2 none
        exact ⟨_, _, f1, .inl ⟨rfl, ⟨g2, hI2, ent_rep hf' f5 hent⟩, f2, f3, f4⟩⟩
      | ret =>
        obtain ⟨st2, hq, h2⟩ := he
        obtain ⟨f1, f2, f3, f4, f5⟩ := fin st2 h2 (some .ret)
        exact ⟨_, _, f1, .inr ⟨rfl, .ret, ⟨st2, .inl ⟨rfl, hq⟩, f5⟩, f2, f3, f4⟩⟩
      | exit i =>
        obtain ⟨st2, hq, h2⟩ := he
        obtain ⟨f1, f2, f3, f4, f5⟩ := fin st2 h2 (some (.exit i))
        exact ⟨_, _, f1, .inr ⟨rfl, .exit i, ⟨st2, .inr ⟨i, rfl, hq⟩, f5⟩, f2, f3, f4⟩⟩
      | goto _ => exact he.elim
      | panic _ => obtain ⟨_, h, _⟩ := he; exact h.elim
      | outgrown => exact he.elim
    · exact ⟨⟨g0, hI0, ent_rep hf' hst1 hent0⟩, hL1, hK1, hd.mono (Nat.le_refl _) fun D o hD => (hlow1 D (Array.getElem?_eq_some_iff.1 hD).1).trans hD⟩
    · -- behind the rounds
      have hnew : ∀ W : World, DOK d a.defers W → W.heap[w.heap.size]? = some (.deferred (some [])) → DOK d ([dD] ++ a.defers) W := by
        intro W hdW hkW
        obtain ⟨Ds, h1, h2, h3, _⟩ := hd
        refine ⟨w.heap.size :: Ds, by rw [h1]; rfl, List.nodup_cons.2 ⟨fun hm => ?_, h2⟩, fun D hD => ?_, fun e => by rw [hdn] at e; cases e⟩
        · have := (Array.getElem?_eq_some_iff.1 (h3 _ hm).2).1
          omega
        · rcases List.mem_cons.1 hD with rfl | hD
          · exact ⟨Nat.le_trans hd0 hSi.fr.size, hkW⟩
          · obtain ⟨Ds', h1', _, h3', _⟩ := hdW
            have : Ds' = Ds := by
              have := h1'.symm.trans h1
              exact (List.map_inj_right (fun x y hxy => by simpa using hxy)).1 (List.append_cancel_right this)
            subst this
            exact h3' D hD
      rintro e W ⟨⟨v, rfl⟩, hend⟩
      rcases hend with ⟨⟨g', hIg, hr'⟩, hl, hkD, hdW⟩ | ⟨c, ⟨st2, hq, hr'⟩, hl, hkD, hdW⟩
      · have hlt : w.heap.size + 1 < W.heap.size := (Array.getElem?_eq_some_iff.1 hl).1
        have hz := litK_spec _ _ _ _ (forceB_spec _ _ (hdone g' hIg))
        have hel := run_endLoop (P := P) hl (by rw [hrec]; simp)
        rw [show (rec .ready none).pending = none by rw [hrec]] at hel
        refine ⟨none, _, hel, ⟨_, hz, ?_⟩⟩
        have hd4 : ∀ o' : Obj, DOK d a.defers (W.putObj (w.heap.size + 1) o') := fun o' => hdW.mono (Nat.le_refl _) fun D o hD => by
          have : D ≠ w.heap.size + 1 := by rintro rfl; rw [hl] at hD; cases hD
          exact (World.putObj_heap_other this).trans hD
        exact range_back hF2 hR hSi (rep_oth hr' (Oth.put _ hl rfl (by omega)) (DOK.nil _ _)) rfl (hnew _ (hd4 _) ((World.putObj_heap_other (by omega)).trans hkD))
      · have hd4 : ∀ o' : Obj, DOK d a.defers (W.putObj (w.heap.size + 1) o') := fun o' => hdW.mono (Nat.le_refl _) fun D o hD => by
          have : D ≠ w.heap.size + 1 := by rintro rfl; rw [hl] at hD; cases hD
          exact (World.putObj_heap_other this).trans hD
        have hb := fun o' : Obj => range_back hF2 hR hSi (rep_oth hr' (Oth.put o' hl rfl (by omega)) (DOK.nil _ _)) (a' := { a with defers := [dD] ++ a.defers }) rfl (hnew _ (hd4 o') ((World.putObj_heap_other (by omega)).trans hkD))
        have hel := run_endLoop (P := P) hl (by rw [hrec]; simp)
        rw [show (rec .done (some c)).pending = some c by rw [hrec]] at hel
        refine ⟨some c, _, hel, ?_⟩
        rcases hq with ⟨rfl, hq⟩ | ⟨i, rfl, hq⟩
        · exact wpIn_ret ⟨_, hq, hb _⟩
        · exact wpIn_exit ⟨_, hq, hb _⟩
theorem wpOpsIn_app {Φ : Fence} {n : Nat} {P : Program} {ops : Array Oper} {Q : Exit → Act → World → Prop} (l2 : List Nat) : ∀ (l1 : List Nat) (a : Act) (w : World),
    wpOpsIn Φ n P ops (fun e a w => match e with | .normal => wpOpsIn Φ n P ops Q l2 a w | e => Q e a w) l1 a w → wpOpsIn Φ n P ops Q (l1 ++ l2) a w
  | [], a, w, h => h
  | i :: l1, a, w, h => by
    have ih := wpOpsIn_app (Φ := Φ) (n := n) (P := P) (ops := ops) (Q := Q) l2 l1
    simp only [List.cons_append, wpOpsIn] at h ⊢
    cases ho : ops[i]? with
    | none =>
      rw [ho] at h
      exact ih _ _ h
    | some o =>
      rw [ho] at h
      simp only at h ⊢
      split at h
      · rename_i hwa
        rw [if_pos hwa]
        unfold Oper.wpIn at *
        refine ⟨h.1, ?_⟩
        have hh := h.2
        generalize (o.semAt Φ.round a.eval).run P w = r at *
        cases r with
        | ok x w' =>
          cases x with
          | value v => exact ih _ _ hh
          | skip => exact ih _ _ hh
          | defer d => exact ih _ _ hh
          | enter f args =>
            simp only [Oper.uponIn] at hh ⊢
            refine ⟨hh.1, hh.2.mono fun e w'' he => ?_⟩
            cases e with
            | returned v => exact ih _ _ he
            | panicked c => exact he
            | outgrown => exact he
          | row r args =>
            simp only [Oper.uponIn] at hh ⊢
            exact ⟨hh.1, hh.2.mono fun v w'' he => ih _ _ he⟩
          | round l f tmps assign body =>
            simp only [Oper.uponIn] at hh ⊢
            refine ⟨hh.1, hh.2.mono fun e w'' he => ?_⟩
            cases e with
            | returned v => exact ih _ _ he
            | panicked c => exact he
            | outgrown => exact he
          | _ => exact hh
        | halt x w' => cases x <;> exact hh
      · rename_i hwa
        rw [if_neg hwa]
        exact ⟨h.1, ih _ _ h.2⟩
theorem lastK_spec : ∀ (ops : List Oper) (k : Oper → Prop), lastK ops k → ∃ o, ops = initL ops ++ [o] ∧ k o
  | [], _, h => h.elim
  | [o], k, h => ⟨o, rfl, h⟩
  | x :: o :: l, k, h => by
    obtain ⟨o', e, hk⟩ := lastK_spec (o :: l) k h
    refine ⟨o', ?_, hk⟩
    show x :: o :: l = x :: (initL (o :: l) ++ [o'])
    rw [← e]
/-- **A call that panics.** -/
theorem oper_wpP {Φ : Fence} (hΦ : Free Φ) {n : Nat} {o : Oper} {st : St} {ch : List PanicEntry} {pre pb bs' : List (Nat × Blk)} {nx' : Nat} (hg : GoodP P o st.regs st.blks st.next ch pre pb nx') (hbs : ∀ i, look bs' i = look (pb ++ st.blks) i)
    {a : Act} {w : World} (hr : RepS d F O0 hs0 w0 st a w) {next : Act → World → Prop} {Q : Exit → Act → World → Prop}
    (hQ : ∀ w', RepS d F O0 hs0 w0 ⟨[], bs', nx'⟩ a w' → Q (.panic ch) a w') : o.wpIn Φ n P a w next Q := by
  obtain ⟨⟨hs, hC, hR, hf, hS⟩, hd⟩ := hr
  obtain ⟨hO, hB⟩ := part_rep hg.sub hC
  have hOeq : Osum F hs (look st.blks) = _ := funext fun x => propext (hO x)
  obtain ⟨f, args, hrun, hcalls⟩ := hg.run _ hs a.eval w (fun x hx v hv => by rw [← hOeq]; exact eval_rel hR (opd_opdF hv)) hB (fun j h1 _ => hf j h1)
  obtain ⟨c, hc⟩ := hg.call
  have hsem : o.semAt Φ.round a.eval = execOp a.eval o := by
    cases hΦ with
    | wide => exact Oper.semAt_none _ _
    | round l => exact Oper.semAt_some _ _ _ fun c' hc' => by rw [hc] at hc'; cases hc'
  refine ⟨fun f _ => hΦ.fn f, ?_⟩
  rw [hsem, hrun, Oper.uponIn_enter]
  refine ⟨hΦ.depth, hΦ.calls (hcalls.mono fun e w' he => ?_)⟩
  obtain ⟨rfl, rv, v, hp⟩ := he
  have hnew : ∀ j b, look pb j = some b → (∃ b0, look pre j = some b0) ∨ look st.blks j = none := by
    intro j b hj
    rcases hg.new j b hj with h | ⟨h1, h2⟩
    · exact .inl h
    · right
      cases hc : look st.blks j with
      | none => rfl
      | some c =>
        obtain ⟨u, hu, _⟩ := hC.blk j c hc
        rw [hf j h1] at hu; cases hu
  obtain ⟨hs', g1, g2, g3, g4, g5, g6⟩ := post_frame hg.sub hC hnew hp
  have hjoin : joinM (look st.blks) (look pre) (look pb) = look bs' := by
    funext j
    rw [hbs, look_append]
    unfold joinM
    cases hpb : look pb j with
    | some b => rfl
    | none =>
      cases hpre : look pre j with
      | some b => obtain ⟨b', hb'⟩ := hg.dom j b hpre; rw [hpb] at hb'; cases hb'
      | none => rfl
  rw [hjoin] at g2 g6
  refine hQ w' ⟨⟨hs', g2, fun t rv ht => ?_, fun j hj => ?_, ⟨fun j h hj => g3 j h (hS.names j h hj), hS.fr.trans g5 hS.own, fun x hx => ?_⟩⟩, hd.mono (Nat.le_refl _) (fr_deferred hC g5)⟩
  · have ht : ([] : List RV)[t]? = some rv := ht
    simp at ht
  · have hj : nx' ≤ j := hj
    have := hg.le
    rw [g4 j (by omega)]
    exact hf j (by omega)
  · rcases g6 x hx with h | h
    · exact hS.own x h
    · exact .inr (Nat.le_trans hS.fr.size h)
theorem enumK_init (ops : List Oper) : ∀ p ∈ enumK 0 (initL ops), ops[p.1]? = some p.2 := by
  have hI : ∀ (l : List Oper) (j : Nat), j < (initL l).length → (initL l)[j]? = l[j]? := by
    intro l
    induction l with
    | nil => intro j hj; simp [initL] at hj
    | cons x l ih =>
      cases l with
      | nil => intro j hj; simp [initL] at hj
      | cons y l =>
        intro j hj
        cases j with
        | zero => rfl
        | succ j => simpa [initL] using ih j (by simpa [initL] using hj)
  have key : ∀ (l : List Oper) (i : Nat), (∀ j, j < l.length → l[j]? = ops[i + j]?) → ∀ p ∈ enumK i l, ops[p.1]? = some p.2 := by
    intro l
    induction l with
    | nil => intro i _ p hp; cases hp
    | cons x l ih =>
      intro i h p hp
      rcases List.mem_cons.1 hp with rfl | hp
      · have := h 0 (by simp); simpa using this.symm
      · exact ih (i + 1) (fun j hj => by have := h (j + 1) (by simpa using hj); rw [show i + 1 + j = i + (j + 1) by omega]; simpa using this) p hp
  exact key _ 0 fun j hj => by rw [Nat.zero_add]; exact hI ops j hj
theorem region_pan (hΓ : GOK P Γ) {Φ : Fence} (hΦ : Free Φ) {n : Nat} {ops : List Oper} {Q : Ex → St → Prop} {st : St} {a : Act} {w : World} (hr : RepS d F O0 hs0 w0 st a w)
    (h : runT P Γ ops (enumK 0 (initL ops)) st fun _ st' => lastK ops fun o => panOpK Γ o st'.regs st'.blks st'.next fun ch bs' nx' => Q (.panic ch) ⟨[], bs', nx'⟩) :
    wpOpsIn Φ n P ops.toArray (postOf d F O0 hs0 w0 Q) (List.range ops.length) a w := by
  have hpre := enumK_init ops
  obtain ⟨tr, st2, h1, h2⟩ := runT_sound hΓ _ hpre st _ hr.lt h
  obtain ⟨o, ho, h1⟩ := lastK_spec _ _ h1
  have hidx : tr.map Stp.i = List.range (initL ops).length := by rw [tr_idx h2, enumK_fst, List.range_eq_range']
  have hlen : ops.length = (initL ops).length + 1 := by
    have := congrArg List.length ho
    simpa using this
  rw [hlen, List.range_succ]
  refine wpOpsIn_app _ _ _ _ ?_
  rw [← hidx]
  refine text_wp (n := n) hΦ h2 (by rw [hidx]; exact List.nodup_range) (D := a.defers) (fun a w _ hr' => ?_) tr [] rfl (fun _ => false) (fun q hq => by cases hq) (fun _ _ => rfl) a w rfl (inv_start h2 (fun _ _ => rfl) hr)
  obtain ⟨hg, ch, pre, pb, bs', nx', hq, hbs, hgood⟩ := panOpK_spec hΓ hr'.lt h1
  have hop : ops.toArray[(initL ops).length]? = some o := by
    rw [List.getElem?_toArray]
    exact (congrArg (fun l : List Oper => l[(initL ops).length]?) ho).trans (by simp)
  show wpOpsIn Φ n P ops.toArray _ [(initL ops).length] a w
  simp only [wpOpsIn, hop]
  rw [if_pos (by simp [Region.wanted, hg])]
  exact oper_wpP hΦ hgood hbs hr' fun w' hr2 => ⟨_, hq, hr2⟩
theorem depsAll_spec {ops : List Oper} {L : Nat → Bool} (hL : Closed ops L) : ∀ (l : List Nat), (∀ d ∈ l, L d = true) → ∀ d ∈ depsAll ops l, L d = true
  | [], _, d, hd => by cases hd
  | i :: l, h, d, hd => by
    unfold depsAll at hd
    split at hd
    · rename_i o ho
      rcases addN_mem hd with hd | hd
      · exact hL i o ho (h i (by simp)) d hd
      · exact depsAll_spec hL l (fun d hd => h d (by simp [hd])) d hd
    · exact depsAll_spec hL l (fun d hd => h d (by simp [hd])) d hd
theorem reach_spec {ops : List Oper} {L : Nat → Bool} (hL : Closed ops L) : ∀ (k : Nat) (l : List Nat), (∀ d ∈ l, L d = true) → ∀ d ∈ reach ops k l, L d = true
  | 0, l, h, d, hd => h d hd
  | k + 1, l, h, d, hd => reach_spec hL k _ (fun d hd => by
      rcases addN_mem hd with hd | hd
      · exact depsAll_spec hL l h d hd
      · exact h d hd) d hd
theorem ltB_spec {n : Nat} {l : List Nat} (h : ltB n l = true) : ∀ i ∈ l, i < n := fun i hi => by
  have := List.all_eq_true.1 h i hi
  exact Nat.blt_eq ▸ this
theorem region_panD (hΓ : GOK P Γ) (hmix : P.follows .mixedOrders = true) {Φ : Fence} (hΦ : Free Φ) {n id : Nat} {ops : List Oper} {Q : Ex → St → Prop} {st : St} {a : Act} {w : World} (hr : RepS d F O0 hs0 w0 st a w)
    (h : runT P Γ ops (enumK 0 (initL ops)) st fun sg st' => lastK ops fun o => Need (PanyP ops sg o) (panOpK Γ o st'.regs st'.blks st'.next fun ch bs' nx' => Q (.panic ch) ⟨[], bs', nx'⟩)) :
    (Code.region id ops.toArray true).wpIn Φ n P (postOf d F O0 hs0 w0 Q) a w := by
  obtain ⟨tr, st2, h1, h2⟩ := runT_sound hΓ _ (enumK_init ops) st _ hr.lt h
  obtain ⟨o, ho, ⟨hpa⟩, h1⟩ := lastK_spec _ _ h1
  simp only [panyB, Bool.and_eq_true] at hpa
  obtain ⟨⟨⟨⟨c1, c2⟩, c3⟩, c4⟩, c5⟩ := hpa
  have hlen : ops.length = (initL ops).length + 1 := by
    have := congrArg List.length ho
    simpa using this
  have hn1 : ops.length - 1 = (initL ops).length := by omega
  rw [hn1] at c2 c3 c4 c5
  have hop : ops[(initL ops).length]? = some o := (congrArg (fun l : List Oper => l[(initL ops).length]?) ho).trans (by simp)
  have hrepl : ∀ i, (Array.replicate ops.length false).getD i false = false := by
    intro i
    rw [Array.getD_eq_getD_getElem?, Array.getElem?_replicate]
    split <;> rfl
  refine wpIn_region_any hmix ?_
  have hlt : ∀ s ∈ tr, s.i < (initL ops).length := fun s hs => ltB_spec c3 _ (is_mem.2 ⟨s.sig, List.mem_map.2 ⟨s, hs, rfl⟩, rfl⟩)
  have := any_wpP (n := n) hΦ h2 hlen hop c1 c2 hlt (ltB_spec c4) (fun L hL hd i hi => reach_spec hL _ _ hd i (covN_spec c5 i hi)) (Q := postOf d F O0 hs0 w0 Q) (fun a w K hr' => by
    obtain ⟨hg, ch, pre, pb, bs', nx', hq, hbs, hgood⟩ := panOpK_spec hΓ hr'.lt h1
    unfold wpOpIn
    rw [List.getElem?_toArray, hop]
    simp only
    rw [if_pos (by simp [Region.wanted, hg])]
    exact oper_wpP hΦ hgood hbs hr' fun w' hr2 => ⟨_, hq, hr2⟩) ops.length (Array.replicate ops.length false) (by simp) (hrepl _) ?_ ?_ a _ (inv_start h2 ?_ (rep_drawn hr (w.drawn + 1)))
  · simpa using this
  · have hle : tr.length = (initL ops).length := by
      have := congrArg List.length (tr_idx h2)
      have e : ∀ (l : List Oper) (i : Nat), (enumK i l).length = l.length := by
        intro l
        induction l with
        | nil => intro i; rfl
        | cons x l ih => intro i; simp [enumK, ih]
      simpa [e] using this
    have := List.length_filter_le (fun s : Stp => !((Array.replicate ops.length false).getD s.i false)) tr
    omega
  · intro i o _ hi
    have : false = true := (hrepl i).symm.trans hi
    cases this
  · intro q _
    exact hrepl q.i
theorem W_sound (hΓ : GOK P Γ) (hmix : P.follows .mixedOrders = true) (cuts : List Nat) : ∀ (c : Code) {Φ : Fence} (_ : Free Φ) (n : Nat) (top : Bool) (_ : top = true → Φ = Fence.wide) {d : Dfr} (_ : top = true → d.no = false) {F : Nat → Prop} {O0 : Nat → Prop} {hs0 : Names} {w0 : World} {m : Nat} (_ : d.n ≤ w0.heap.size) (_ : ∀ j, m ≤ j → hs0 j = none) (Q : Ex → St → Prop) (st : St) (a : Act) (w : World), RepS d F O0 hs0 w0 st a w →
    W P Γ m cuts top c Q st → c.wpIn Φ n P (postOf d F O0 hs0 w0 Q) a w
  | .skip, Φ, hΦ, n, top, htop, d, hdn, F, O0, hs0, w0, m, hd0, hm, Q, st, a, w, hr, h => wpIn_skip ⟨st, h, hr⟩
  | .label _, Φ, hΦ, n, top, htop, d, hdn, F, O0, hs0, w0, m, hd0, hm, Q, st, a, w, hr, h => wpIn_label ⟨st, h, hr⟩
  | .exit i, Φ, hΦ, n, top, htop, d, hdn, F, O0, hs0, w0, m, hd0, hm, Q, st, a, w, hr, h => wpIn_exit ⟨st, h, hr⟩
  | .ret, Φ, hΦ, n, top, htop, d, hdn, F, O0, hs0, w0, m, hd0, hm, Q, st, a, w, hr, h => wpIn_ret ⟨st, h, hr⟩
  | .region id ops draw, Φ, hΦ, n, top, htop, d, hdn, F, O0, hs0, w0, m, hd0, hm, Q, st, a, w, hr, h => by
    unfold W at h
    cases draw with
    | false =>
      simp only at h
      have hgo : runT P Γ ops.toList (enumK 0 ops.toList) st (fun _ st' => Q .normal st') → (Code.region id ops false).wpIn Φ n P (postOf d F O0 hs0 w0 Q) a w := by
       intro h
       obtain ⟨tr, st2, h1, h2⟩ := runT_sound hΓ _ (enumK_spec ops.toList 0 fun j => by simp) st _ hr.lt h
       have hidx : tr.map Stp.i = List.range ops.size := by rw [tr_idx h2, enumK_fst, List.range_eq_range']; simp
       refine wpIn_region ?_
       rw [← hidx]
       have := text_wp (n := n) hΦ h2 (by rw [hidx]; exact List.nodup_range) (Q := postOf d F O0 hs0 w0 Q) (fun a w _ hr' => ⟨st2, h1, hr'⟩) tr [] rfl (fun _ => false) (fun q hq => by cases hq) (fun _ _ => rfl) a w rfl (inv_start h2 (fun _ _ => rfl) hr)
       simpa using this
      split at h
      · exact hgo h
      · rcases h with ⟨h | h⟩
        · exact hgo h
        · refine wpIn_region ?_
          have := region_pan (n := n) hΓ hΦ hr h
          simpa using this
    | true =>
      simp only at h
      have hgo : (DrawP ops.toList.length fun π => pickK ops.toList π fun l => runT P Γ ops.toList l st fun sg st' => Need (AnyP ops.toList sg) (Q .normal st')) → (Code.region id ops true).wpIn Φ n P (postOf d F O0 hs0 w0 Q) a w := by
       intro h
       obtain ⟨⟨π, h⟩⟩ := h
       obtain ⟨l, h, hl⟩ := pickK_spec _ _ h
       obtain ⟨tr, st2, ⟨⟨h1⟩, h1'⟩, h2⟩ := runT_sound hΓ _ hl st _ hr.lt h
       have hrepl : ∀ i, (Array.replicate ops.size false).getD i false = false := by
         intro i
         rw [Array.getD_eq_getD_getElem?, Array.getElem?_replicate]
         split <;> rfl
       refine wpIn_region_any hmix ?_
       have := any_wp (n := n) hΦ h2 h1 (Q := postOf d F O0 hs0 w0 Q) (fun a w hr' => ⟨st2, h1', hr'⟩) ops.size (Array.replicate ops.size false) (by simp) (Nat.le_trans (List.length_filter_le _ _) ?_) ?_ a _ (inv_start h2 ?_ (rep_drawn hr (w.drawn + 1)))
       · simpa using this
       · simp only [anyB, Bool.and_eq_true] at h1
         have := Nat.le_of_ble_eq_true h1.2
         simpa using this
       · intro i o _ hi
         have : false = true := (hrepl i).symm.trans hi
         cases this
       · intro q _
         exact hrepl q.i
      split at h
      · exact hgo h
      · rcases h with ⟨h | h⟩
        · exact hgo h
        · have := region_panD (n := n) (id := id) hΓ hmix hΦ hr h
          simpa using this
  | .seq x y, Φ, hΦ, n, top, htop, d, hdn, F, O0, hs0, w0, m, hd0, hm, Q, st, a, w, hr, h => by
    unfold W at h
    split at h
    · refine wpIn_seq (wpIn_mono (W_sound hΓ hmix cuts x hΦ n top htop hdn hd0 hm _ st a w hr h) fun e a' w' he => ?_)
      cases e with
      | normal =>
        obtain ⟨st', h1, h2⟩ := he
        exact W_sound hΓ hmix cuts y hΦ n top htop hdn hd0 hm _ st' a' w' h2 h1
      | exit i => exact he
      | ret => exact he
      | goto _ => exact he.elim
      | panic _ => exact he
      | outgrown => exact he.elim
    · obtain ⟨⟨G, J, S, h, hy⟩⟩ := h
      refine wpIn_seq (wpIn_mono (W_sound hΓ hmix cuts x hΦ n top htop hdn hd0 hm _ st a w hr h) fun e a' w' he => ?_)
      cases e with
      | normal =>
        obtain ⟨st', ⟨⟨g, h1, h1'⟩⟩, h2⟩ := he
        exact W_sound hΓ hmix cuts y hΦ n top htop hdn hd0 hm _ _ a' w' (ent_rep hm h2 h1) (forceK_spec (hy g h1'))
      | exit i => exact he
      | ret => exact he
      | goto _ => exact he.elim
      | panic _ => exact he
      | outgrown => exact he.elim
  | .cond c x y, Φ, hΦ, n, top, htop, d, hdn, F, O0, hs0, w0, m, hd0, hm, Q, st, a, w, hr, h => by
    unfold W at h
    obtain ⟨v, h1, h⟩ := opK_spec _ _ _ h
    split at h
    case h_3 => exact h.elim
    case h_1 =>
      obtain ⟨t, hv⟩ : ∃ t, a.eval c = .bool t := by
        obtain ⟨⟨hs, hw, hR, hf, hS⟩, hd⟩ := hr
        exact eval_rel hR (opd_opdF h1)
      exact wpIn_cond_split hv (fun ht => W_sound hΓ hmix cuts x hΦ n top htop hdn hd0 hm Q st a w hr h.1) (fun ht => W_sound hΓ hmix cuts y hΦ n top htop hdn hd0 hm Q st a w hr h.2)
    rename_i t
    have hv : a.eval c = .bool t := by
      obtain ⟨⟨hs, hw, hR, hf, hS⟩, hd⟩ := hr
      exact rel_v (eval_rel hR (opd_opdF h1))
    exact wpIn_cond_split hv (fun ht => W_sound hΓ hmix cuts x hΦ n top htop hdn hd0 hm Q st a w hr (by subst ht; exact h)) (fun ht => W_sound hΓ hmix cuts y hΦ n top htop hdn hd0 hm Q st a w hr (by subst ht; exact h))
  | .block id x, Φ, hΦ, n, top, htop, d, hdn, F, O0, hs0, w0, m, hd0, hm, Q, st, a, w, hr, h => by
    unfold W at h
    refine wpIn_block (wpIn_mono (W_sound hΓ hmix cuts x hΦ n top htop hdn hd0 hm _ st a w hr h) fun e a' w' he => ?_)
    cases e with
    | normal => exact he
    | exit i =>
      obtain ⟨st', h1, h2⟩ := he
      simp only at h1
      show if i = id then _ else _
      by_cases e : i = id
      · subst e
        rw [Nat.beq_refl] at h1
        rw [if_pos rfl]
        exact ⟨st', h1, h2⟩
      · rw [beq_false_of_ne e] at h1
        rw [if_neg e]
        exact ⟨st', h1, h2⟩
    | ret => exact he
    | goto _ => exact he.elim
    | panic _ => exact he
    | outgrown => exact he.elim
  | .loop x, Φ, hΦ, n, top, htop, d, hdn, F, O0, hs0, w0, m, hd0, hm, Q, st, a, w, hr, h => by
    unfold W at h
    obtain ⟨⟨G, J, S, μ, ⟨⟨g0, h0, h0'⟩⟩, h⟩⟩ := h
    classical
    let I : Act → World → Prop := fun a w => ∃ g, J g ∧ RepS d F O0 hs0 w0 (S g) a w
    have hmin : ∀ a w, I a w → ∃ n, (∃ g, μ g = n ∧ J g ∧ RepS d F O0 hs0 w0 (S g) a w) ∧ ∀ k, (∃ g, μ g = k ∧ J g ∧ RepS d F O0 hs0 w0 (S g) a w) → n ≤ k := fun a w ⟨g, hj, hg⟩ => least ⟨_, g, rfl, hj, hg⟩
    let ν : Act → World → Nat := fun a w => if hI : I a w then Classical.choose (hmin a w hI) else 0
    have hν : ∀ a w (hI : I a w), ∃ g, μ g = ν a w ∧ J g ∧ RepS d F O0 hs0 w0 (S g) a w := fun a w hI => by
      have := (Classical.choose_spec (hmin a w hI)).1
      simp only [ν, dif_pos hI]
      exact this
    have hle : ∀ a w g, J g → RepS d F O0 hs0 w0 (S g) a w → ν a w ≤ μ g := fun a w g hj hg => by
      have hI : I a w := ⟨g, hj, hg⟩
      simp only [ν, dif_pos hI]
      exact (Classical.choose_spec (hmin a w hI)).2 _ ⟨g, rfl, hj, hg⟩
    refine wpIn_loop I ν ⟨g0, h0', ent_rep hm hr h0⟩ fun a w hI => ?_
    obtain ⟨g, hg, hj, hrep⟩ := hν a w hI
    refine wpIn_mono (W_sound hΓ hmix cuts x hΦ n top htop hdn hd0 hm _ (S g) a w hrep (forceK_spec (h g hj))) fun e a' w' he => ?_
    cases e with
    | normal =>
      obtain ⟨st', ⟨⟨g', hent, hlt, hj'⟩⟩, h2⟩ := he
      have hrep' := ent_rep hm h2 hent
      exact ⟨⟨g', hj', hrep'⟩, by have := hle a' w' g' hj' hrep'; omega⟩
    | exit i => exact he
    | ret => exact he
    | goto _ => exact he.elim
    | panic _ => exact he
    | outgrown => exact he.elim
  | .rangeFunc f ps assign body, Φ, hΦ, n, top, htop, d, hdn, F, O0, hs0, w0, m, hd0, hm, Q, st, a, w, hr, h => by
    unfold W at h
    cases top with
    | false => exact h.elim
    | true =>
      have hw := htop rfl
      subst hw
      exact range_sound hΓ hd0 (hdn rfl) (fun l d F O0 hs0 w0 m hd0 hm Q st a w hr h => W_sound hΓ hmix cuts assign (.round l) 0 false (fun e => by cases e) (fun e => by cases e) hd0 hm Q st a w hr h)
        (fun l d F O0 hs0 w0 m hd0 hm Q st a w hr h => W_sound hΓ hmix cuts body (.round l) 0 false (fun e => by cases e) (fun e => by cases e) hd0 hm Q st a w hr h) hr h
  | .scope .., Φ, hΦ, n, top, htop, d, hdn, F, O0, hs0, w0, m, hd0, hm, Q, st, a, w, hr, h => h.elim
  | .goto .., Φ, hΦ, n, top, htop, d, hdn, F, O0, hs0, w0, m, hd0, hm, Q, st, a, w, hr, h => h.elim
  | .refuse .., Φ, hΦ, n, top, htop, d, hdn, F, O0, hs0, w0, m, hd0, hm, Q, st, a, w, hr, h => h.elim
end
end Go.Eng
namespace Go.Eng
open Go
def padK : List RV → Nat → (List RV → Prop) → Prop
  | x :: l, n + 1, k => padK l n fun r => k (x :: r)
  | [], n + 1, k => padK [] n fun r => k (.un :: r)
  | [], 0, k => k []
  | _ :: _, 0, _ => False
def resK (P : Program) (regs : List RV) (bs : List (Nat × Blk)) : List ResultVar → (List Sv → Prop) → Prop
  | [], k => k []
  | .tmp t :: l, k => nthK regs t fun v => match v with
    | .s x => resK P regs bs l fun r => k (x :: r)
    | _ => False
  | .cell a t :: l, k => nthK regs a fun v => match v with
    | .s (.c (.ptr j off)) => lookK bs j fun b => match b, isAggT P t with
      | .row _ cs, some true => sizeK P t fun n => subK cs off n fun r => resK P regs bs l fun r' => k (.agg r :: r')
      | .row _ cs, some false => nthK cs off fun c => resK P regs bs l fun r' => k (.c c :: r')
      | _, _ => False
    | _ => False
def resRV (l : List Sv) (k : RV → Prop) : Prop :=
  match l with
  | [x] => k (.s x)
  | l => k (.tup l)
def retK (P : Program) (m : Nat) (fn : Func) (res : RV) (post : List (Nat × Blk)) (st : St) : Prop :=
  resK P st.regs st.blks fn.results.toList fun l => resRV l fun v => EntK m ⟨[v], st.blks, st.next⟩ ⟨[res], post, post.length⟩
/-- A return, where one is told. -/
def retE (P : Program) (m : Nat) (fn : Func) (S : FSpec) (γ : S.G) (st : St) : Prop :=
  match S.panics γ with
  | none => retK P m fn (S.res γ) (S.post γ) st
  | some _ => False
/-- A panic, where one is told. -/
def panE (m : Nat) (S : FSpec) (γ : S.G) (ch : List PanicEntry) (st : St) : Prop :=
  match S.panics γ, S.res γ with
  | some ch', .any => Need (ch = ch') (EntK m ⟨[], st.blks, st.next⟩ ⟨[], S.post γ, (S.post γ).length⟩)
  | _, _ => False
def bodyK (P : Program) (Γ : FuncId → Option FSpec) (cuts : List Nat) (fn : Func) (c : Code) (S : FSpec) (γ : S.G) : Prop :=
  litK 400 0 (S.blks γ).length fun m => forceB (S.blks γ) fun bs => forceL (S.args γ) fun args => padK args fn.ntmps fun regs => W P Γ m cuts true c (fun e st => match e with
    | .exit _ => False
    | .panic ch => panE m S γ ch st
    | _ => retE P m fn S γ st) ⟨regs, bs, m⟩
theorem padK_spec : ∀ (l : List RV) (n : Nat) (k : List RV → Prop), padK l n k → l.length ≤ n ∧ k (l ++ List.replicate (n - l.length) .un)
  | x :: l, n + 1, k, h => by
    obtain ⟨h1, h2⟩ := padK_spec l n _ h
    refine ⟨by simp; omega, ?_⟩
    simpa using h2
  | [], n + 1, k, h => by
    obtain ⟨h1, h2⟩ := padK_spec [] n _ h
    refine ⟨by simp, ?_⟩
    simpa [List.replicate_succ] using h2
  | [], 0, k, h => ⟨by simp, by unfold padK at h; simpa using h⟩
  | _ :: _, 0, _, h => h.elim
def resOne (tmps : Array Value) : ResultVar → Sem Value
  | .tmp t => pure (tmps.getD t undef)
  | .cell a t => do loadVar t (← asAddr (tmps.getD a undef))
theorem resK_spec {P : Program} {F : Nat → Prop} {hs : Names} {w : World} {st : St} {tmps : Array Value} (hw : WRep F hs (look st.blks) w) (hR : Regs (Osum F hs (look st.blks)) w hs (fun t => st.regs[t]?) tmps) :
    ∀ (l : List ResultVar) (k : List Sv → Prop), resK P st.regs st.blks l k → ∃ (r : List Sv) (us : List Value), k r ∧ r.length = l.length ∧ us.length = l.length ∧
      (∀ (i : Nat) x u, l[i]? = some x → us[i]? = some u → (resOne tmps x).run P w = .ok u w) ∧ ∀ (i : Nat) y u, r[i]? = some y → us[i]? = some u → SvRel (Osum F hs (look st.blks)) w y hs u
  | [], k, h => ⟨[], [], h, rfl, rfl, fun i x u h => (by simp at h), fun i x u h => by simp at h⟩
  | .tmp t :: l, k, h => by
    obtain ⟨v, h1, h⟩ := nthK_spec _ _ _ h
    split at h
    case h_2 => exact h.elim
    rename_i y
    obtain ⟨r, us, h2, h3, h4, h5, h6⟩ := resK_spec hw hR l _ h
    obtain ⟨u, hu, hr⟩ := hR t _ h1
    refine ⟨_, u :: us, h2, by simp [h3], by simp [h4], fun i x u' hx hu' => ?_, fun i x u' hx hu' => ?_⟩
    · cases i with
      | zero =>
        simp at hx hu'; subst hx; subst hu'
        simp [resOne, Array.getD_eq_getD_getElem?, hu]
      | succ i => exact h5 i x u' (by simpa using hx) (by simpa using hu')
    · cases i with
      | zero => simp at hx hu'; subst hx; subst hu'; exact hr
      | succ i => exact h6 i x u' (by simpa using hx) (by simpa using hu')
  | .cell a t :: l, k, h => by
    obtain ⟨v, h1, h⟩ := nthK_spec _ _ _ h
    split at h
    case h_2 => exact h.elim
    rename_i j off
    obtain ⟨b, hb, h⟩ := lookK_spec _ _ _ h
    obtain ⟨u0, hu0, hr0⟩ := hR a _ h1
    obtain ⟨bb, hbb, rfl⟩ := rel_ptr hr0
    have hone : ∀ (rv : Sv) (x : Value), (Instr.loadAt t (.pointer (some ⟨bb, off, none⟩))).run P w = .ok x w → SvRel (Osum F hs (look st.blks)) w rv hs x →
        (∃ (r : List Sv) (us : List Value), (fun r' => k (rv :: r')) r ∧ r.length = l.length ∧ us.length = l.length ∧ (∀ (i : Nat) x u, l[i]? = some x → us[i]? = some u → (resOne tmps x).run P w = .ok u w) ∧
          ∀ (i : Nat) y u, r[i]? = some y → us[i]? = some u → SvRel (Osum F hs (look st.blks)) w y hs u) →
        ∃ (r : List Sv) (us : List Value), k r ∧ r.length = (ResultVar.cell a t :: l).length ∧ us.length = (ResultVar.cell a t :: l).length ∧
          (∀ (i : Nat) x u, (ResultVar.cell a t :: l)[i]? = some x → us[i]? = some u → (resOne tmps x).run P w = .ok u w) ∧ ∀ (i : Nat) y u, r[i]? = some y → us[i]? = some u → SvRel (Osum F hs (look st.blks)) w y hs u := by
      rintro rv x hx hrv ⟨r, us, h2, h3, h4, h5, h6⟩
      refine ⟨rv :: r, x :: us, h2, by simp [h3], by simp [h4], fun i y u' hy hu' => ?_, fun i y u' hy hu' => ?_⟩
      · cases i with
        | zero =>
          simp at hy hu'; subst hy; subst hu'
          simp only [resOne, Array.getD_eq_getD_getElem?, hu0, Option.getD_some]
          exact hx
        | succ i => exact h5 i y u' (by simpa using hy) (by simpa using hu')
      · cases i with
        | zero => simp at hy hu'; subst hy; subst hu'; exact hrv
        | succ i => exact h6 i y u' (by simpa using hy) (by simpa using hu')
    split at h
    · rename_i ty cs hag
      obtain ⟨i, hi, h⟩ := sizeK_spec h
      obtain ⟨r, h, h2, h3, h4⟩ := subK_spec _ _ _ _ h
      obtain ⟨x, cs', e1, e2, e3, e4⟩ := row_of hw hb
      rw [hbb] at e1; cases e1
      obtain ⟨v, hv, hrv⟩ := load_agg (P := P) (O := Osum F hs (look st.blks)) (hs := hs) hag hi bb off r h2 (fun m c hc => by
        have hm' : m < i.size := by rw [← h2]; exact (List.getElem?_eq_some_iff.1 hc).1
        obtain ⟨u, _, h5, h6⟩ := e4 (off + m) c (by rw [← h4 m hm']; exact hc)
        exact ⟨u, h5, h6⟩)
      exact hone (.agg r) v hv hrv (resK_spec hw hR l _ h)
    · rename_i ty cs hag
      obtain ⟨c, h2, h⟩ := nthK_spec _ _ _ h
      obtain ⟨x, cs', e1, e2, e3, e4⟩ := row_of hw hb
      rw [hbb] at e1; cases e1
      obtain ⟨u, _, h5, h6⟩ := e4 off c h2
      exact hone (.c c) u (load_one hag h5) h6 (resK_spec hw hR l _ h)
    · exact h.elim
def valOf (us : List Value) : Value :=
  match us with
  | [v] => v
  | vs => .tuple vs.toArray
def resAll (fn : Func) (tmps : Array Value) : Sem Value := do
  let vs ← fn.results.mapM (resOne tmps)
  pure (if h : vs.size = 1 then vs[0] else .tuple vs)
theorem run_results {P : Program} {fn : Func} {tmps : Array Value} {w : World} : ∀ (l : List ResultVar) (us : List Value), us.length = l.length →
    (∀ (i : Nat) x u, l[i]? = some x → us[i]? = some u → (resOne tmps x).run P w = .ok u w) → l.length ≤ 6 → fn.results.toList = l →
    (results fn tmps).run P w = .ok (valOf us) w := by
  intro l us hlen hrun h6 he
  have he' : fn.results = l.toArray := by rw [← he]
  have hres : results fn tmps = resAll fn tmps := by
    unfold results resAll
    congr 2
  rw [hres]
  unfold resAll valOf
  rw [he']
  match l, us, hlen, h6 with
  | [], [], _, _ => simp
  | [a], [u], _, _ => have h0 := hrun 0 a u rfl rfl; simp [h0]
  | [a, b], [u, v], _, _ => have h0 := hrun 0 a u rfl rfl; have h1 := hrun 1 b v rfl rfl; simp [h0, h1]
  | [a, b, c], [u, v, x], _, _ => have h0 := hrun 0 a u rfl rfl; have h1 := hrun 1 b v rfl rfl; have h2 := hrun 2 c x rfl rfl; simp [h0, h1, h2]
  | [a, b, c, d], [u, v, x, y], _, _ => have h0 := hrun 0 a u rfl rfl; have h1 := hrun 1 b v rfl rfl; have h2 := hrun 2 c x rfl rfl; have h3 := hrun 3 d y rfl rfl; simp [h0, h1, h2, h3]
  | [a, b, c, d, e], [u, v, x, y, z], _, _ =>
    have h0 := hrun 0 a u rfl rfl; have h1 := hrun 1 b v rfl rfl; have h2 := hrun 2 c x rfl rfl; have h3 := hrun 3 d y rfl rfl; have h4 := hrun 4 e z rfl rfl; simp [h0, h1, h2, h3, h4]
  | [a, b, c, d, e, f], [u, v, x, y, z, q], _, _ =>
    have h0 := hrun 0 a u rfl rfl; have h1 := hrun 1 b v rfl rfl; have h2 := hrun 2 c x rfl rfl; have h3 := hrun 3 d y rfl rfl; have h4 := hrun 4 e z rfl rfl; have h5 := hrun 5 f q rfl rfl; simp [h0, h1, h2, h3, h4, h5]
  | _ :: _ :: _ :: _ :: _ :: _ :: _ :: _, _, _, h => simp at h
theorem ret_rel {O : Nat → Prop} {w : World} {hs : Names} {r : List Sv} {us : List Value} (hlen : r.length = us.length)
    (hr : ∀ (i : Nat) y u, r[i]? = some y → us[i]? = some u → SvRel O w y hs u) {k : RV → Prop} (hk : resRV r k) :
    ∃ rv, k rv ∧ RVRel O w rv hs (valOf us) := by
  have htup : ∀ (r : List Sv) (vs : List Value), r.length = vs.length → (∀ (i : Nat) y v, r[i]? = some y → vs[i]? = some v → SvRel O w y hs v) → RVRel O w (.tup r) hs (.tuple vs.toArray) := by
    intro r vs h1 h2
    exact ⟨vs.toArray, rfl, by simp [h1], fun i c v hc hv => h2 i c v hc (by simpa using hv)⟩
  match r, us, hlen, hk with
  | [], [], _, hk => exact ⟨_, hk, htup [] [] rfl fun i y v h => by simp at h⟩
  | [x], [y], _, hk => exact ⟨_, hk, hr 0 x y rfl rfl⟩
  | x :: x2 :: l, y :: y2 :: r, hlen, hk => exact ⟨_, hk, htup _ _ hlen hr⟩
theorem meets_of {P : Program} {Γ : FuncId → Option FSpec} (hΓ : GOK P Γ) (hmix : P.follows .mixedOrders = true) {f : FuncId} {fn : Func} {c : Code} (S : FSpec) (cuts : List Nat) (hf : P.funcs[f]? = some fn) (hb : fn.body = some c)
    (hname : (fn.name == "runtime.NumGoroutine") = false) (h6 : fn.results.toList.length ≤ 6)
    (pn : ∀ γ j b, look (S.blks γ) j = some b → j < (S.blks γ).length) (qn : ∀ γ j b, look (S.post γ) j = some b → j < (S.post γ).length)
    (full : ∀ γ j, j < (S.blks γ).length → ∃ b, look (S.blks γ) j = some b) (kp : ∀ γ j b, look (S.blks γ) j = some b → ∃ b', look (S.post γ) j = some b')
    (h : ∀ γ, S.pre γ → bodyK P Γ cuts fn c S γ) (hy : ∀ γ, S.yields γ = none := by intro γ; rfl) : Meets P f S where
  pn := pn
  qn := qn
  full := full
  kp := kp
  body := ⟨fn, hf, by rw [hb]; rfl, hname⟩
  iter := fun γ n item h => by rw [hy γ] at h; cases h
  run := fun γ _ hp F hs w vals hf0 ha hw => by
    obtain ⟨h1, h2⟩ := padK_spec _ _ _ (forceL_spec _ _ (forceB_spec _ _ (litK_spec _ _ _ _ (h γ hp))))
    have hrep : RepS w.heap.size F (own hs (look (S.blks γ))) hs w ⟨S.args γ ++ List.replicate (fn.ntmps - (S.args γ).length) .un, S.blks γ, (S.blks γ).length⟩
        { tmps := vals ++ Array.replicate (fn.ntmps - vals.size) undef, defers := [] } w := by
      refine ⟨⟨hs, hw, fun t rv ht => ?_, hf0, ⟨fun _ _ h => h, Fr.refl _ _, fun x hx => .inl hx⟩⟩, DOK.nil _ _⟩
      obtain ⟨hsz, hv⟩ := ha
      have ht : (S.args γ ++ List.replicate (fn.ntmps - (S.args γ).length) RV.un)[t]? = some rv := ht
      by_cases hlt : t < (S.args γ).length
      · rw [List.getElem?_append_left hlt] at ht
        have hlt' : t < vals.size := by omega
        exact ⟨vals[t], by simp [Array.getElem?_append_left hlt', Array.getElem?_eq_getElem hlt'], hv t rv _ ht (Array.getElem?_eq_getElem hlt')⟩
      · rw [List.getElem?_append_right (by omega), List.getElem?_replicate] at ht
        split at ht
        · cases ht
          refine ⟨undef, ?_, rfl⟩
          show (vals ++ Array.replicate (fn.ntmps - vals.size) undef)[t]? = some undef
          rw [Array.getElem?_append_right (by omega), Array.getElem?_replicate, if_pos (by omega)]
        · cases ht
    have hfin : ∀ st a w', retK P (S.blks γ).length fn (S.res γ) (S.post γ) st → RepS w.heap.size F (own hs (look (S.blks γ))) hs w st a w' → ∃ v, (results fn a.tmps).run P w' = .ok v w' ∧
        ∃ v', Ending.returned v = .returned v' ∧ Post F hs (look (S.blks γ)) w (S.res γ) (look (S.post γ)) (S.blks γ).length (max (S.blks γ).length (S.post γ).length) v' w' := by
      intro st a w' hret hr
      obtain ⟨⟨hs1, hw1, hR1, hf1, hS1⟩, hd⟩ := hr
      obtain ⟨r, us, hk, h3, h4, h5, h7⟩ := resK_spec hw1 hR1 _ _ hret
      have hrun := run_results (P := P) (tmps := a.tmps) (w := w') _ us h4 h5 h6 rfl
      obtain ⟨rv, hent, hrv⟩ := ret_rel (h3.trans h4.symm) h7 hk
      revert hrun hrv
      generalize valOf us = val
      intro hrun hrv
      refine ⟨_, hrun, _, rfl, ?_⟩
      have hrep1 : RepS w.heap.size F (own hs (look (S.blks γ))) hs w ⟨[rv], st.blks, st.next⟩
          { tmps := #[val], defers := [] } w' := by
        refine ⟨⟨hs1, hw1, fun t rv' ht => ?_, hf1, hS1⟩, DOK.nil _ _⟩
        have ht : [rv][t]? = some rv' := ht
        cases t with
        | zero => simp at ht; subst ht; exact ⟨_, rfl, hrv⟩
        | succ t => simp at ht
      have hrep2 := ent_rep hf0 hrep1 hent
      obtain ⟨⟨hs2, hw2, hR2, hf2, hS2⟩, _⟩ := hrep2
      obtain ⟨u, hu, hru⟩ := hR2 0 (S.res γ) rfl
      have hu : val = u := by simpa using hu
      subst hu
      refine ⟨hs2, hru, hw2, hS2.names, fun j hj => ?_, hS2.fr, hS2.own⟩
      rcases Nat.lt_or_ge j (S.blks γ).length with h' | h'
      · obtain ⟨b, hbj⟩ := full γ j h'
        obtain ⟨u, hu, _⟩ := hw.blk j b hbj
        rw [hS2.names j u hu, hu]
      · rw [hf0 j h']
        exact hf2 j (show (S.post γ).length ≤ j by omega)
    -- the marks, one after the other
    have hmarks : ∀ (R : Ending → World → Prop) st tmps (u : FrameMode), u ≠ .run → (∀ w', RepS w.heap.size F (own hs (look (S.blks γ))) hs w st { tmps, defers := [] } w' → LeavesInM Fence.wide 0 P fn tmps R [] u w') →
        ∀ (Ds : List Nat) w', Ds.Nodup → (∀ D ∈ Ds, w.heap.size ≤ D ∧ w'.heap[D]? = some (.deferred (some []))) → RepS w.heap.size F (own hs (look (S.blks γ))) hs w st { tmps, defers := [] } w' →
        LeavesInM Fence.wide 0 P fn tmps R (Ds.map fun D => { target := .collected D, args := #[] }) u w' := by
      intro R st tmps u hu hfin Ds
      induction Ds with
      | nil => intro w' _ _ hr; exact hfin w' hr
      | cons D Ds ih =>
        intro w' hnd hD hr
        rw [List.nodup_cons] at hnd
        obtain ⟨hle, hh⟩ := hD D (by simp)
        refine ⟨hu, .inl ⟨D, _, rfl, run_takeDeferred hh, ih _ hnd.2 (fun D' hD' => ?_) (rep_oth hr (Oth.put _ hh rfl hle) (DOK.nil _ _))⟩⟩
        have hne : D' ≠ D := by rintro rfl; exact hnd.1 hD'
        obtain ⟨k1, k2⟩ := hD D' (by simp [hD'])
        exact ⟨k1, (World.putObj_heap_other hne).trans k2⟩
    have hall : ∀ st a w', retE P (S.blks γ).length fn S γ st → RepS w.heap.size F (own hs (look (S.blks γ))) hs w st a w' →
        LeavesInM Fence.wide 0 P fn a.tmps (fun e w' => ∃ v, EndsAs (S.panics γ) e v ∧ Post F hs (look (S.blks γ)) w (S.res γ) (look (S.post γ)) (S.blks γ).length (max (S.blks γ).length (S.post γ).length) v w') a.defers .returning w' := by
      intro st a w' hret hr
      unfold retE at hret
      split at hret
      case h_2 => exact hret.elim
      rename_i hpn
      obtain ⟨Ds, h1, h2, h3, _⟩ := hr.defers
      rw [h1, hpn, List.append_nil]
      refine hmarks _ st a.tmps .returning (fun h => by cases h) (fun w' hr' => ?_) Ds w' h2 h3 ⟨hr.ex, DOK.nil _ _⟩
      exact hfin st { tmps := a.tmps, defers := [] } w' hret hr'
    have hallP : ∀ st ch a w', panE (S.blks γ).length S γ ch st → RepS w.heap.size F (own hs (look (S.blks γ))) hs w st a w' →
        LeavesInM Fence.wide 0 P fn a.tmps (fun e w' => ∃ v, EndsAs (S.panics γ) e v ∧ Post F hs (look (S.blks γ)) w (S.res γ) (look (S.post γ)) (S.blks γ).length (max (S.blks γ).length (S.post γ).length) v w') a.defers (.panicking ch) w' := by
      intro st ch a w' hp hr
      unfold panE at hp
      split at hp
      case h_2 => exact hp.elim
      rename_i ch' hpn hres
      obtain ⟨rfl, hent⟩ := hp
      obtain ⟨Ds, h1, h2, h3, _⟩ := hr.defers
      rw [h1, hpn, hres, List.append_nil]
      refine hmarks _ st a.tmps (.panicking ch) (fun h => by cases h) (fun w' hr' => ?_) Ds w' h2 h3 ⟨hr.ex, DOK.nil _ _⟩
      obtain ⟨⟨hs1, hw1, hR1, hf1, hS1⟩, hd⟩ := hr'
      have hrep1 : RepS w.heap.size F (own hs (look (S.blks γ))) hs w ⟨[], st.blks, st.next⟩ { tmps := #[], defers := [] } w' :=
        ⟨⟨hs1, hw1, (fun t rv' ht => by
          have ht : ([] : List RV)[t]? = some rv' := ht
          simp at ht), hf1, hS1⟩, DOK.nil _ _⟩
      obtain ⟨⟨hs2, hw2, hR2, hf2, hS2⟩, _⟩ := ent_rep hf0 hrep1 hent
      show ∃ v, Ending.panicked ch = .panicked ch ∧ _
      refine ⟨undef, rfl, hs2, trivial, hw2, hS2.names, fun j hj => ?_, hS2.fr, hS2.own⟩
      rcases Nat.lt_or_ge j (S.blks γ).length with h' | h'
      · obtain ⟨b, hbj⟩ := full γ j h'
        obtain ⟨u, hu, _⟩ := hw.blk j b hbj
        rw [hS2.names j u hu, hu]
      · rw [hf0 j h']
        exact hf2 j (show (S.post γ).length ≤ j by omega)
    refine callsIn_wide.1 (callsIn_of_wp_marks (n := 0) hf hb trivial (wpIn_mono (W_sound hΓ hmix cuts c .wide 0 true (fun _ => rfl) (fun _ => rfl) (Nat.le_refl _) hf0 _ _ _ w hrep h2) fun e a w' he => ?_))
    cases e with
    | normal => obtain ⟨st, h3, h4⟩ := he; exact hall st _ _ h3 h4
    | ret => obtain ⟨st, h3, h4⟩ := he; exact hall st _ _ h3 h4
    | exit i => obtain ⟨st, h3, _⟩ := he; exact h3.elim
    | goto _ => exact he.elim
    | panic ch => obtain ⟨st, h3, h4⟩ := he; exact hallP st ch _ _ h3 h4
    | outgrown => exact he.elim
end Go.Eng
namespace Go.Eng
open Go
theorem wrap_i64 {x : Int} (h : -9223372036854775808 ≤ x ∧ x ≤ 9223372036854775807) : IntKind.i64.wrap x = x := by
  show (if (true && decide (x % 18446744073709551616 ≥ 9223372036854775808)) = true then x % 18446744073709551616 - 18446744073709551616 else x % 18446744073709551616) = x
  simp only [Bool.true_and, decide_eq_true_eq]
  split <;> omega
def spec (G : Type) (args : G → List RV) (pre : G → Prop) (res : G → RV) : FSpec := { G := G, args := args, blks := fun _ => [], pre := pre, res := res, post := fun _ => [] }
theorem meets_plain {P : Program} {Γ : FuncId → Option FSpec} (hΓ : GOK P Γ) (hmix : P.follows .mixedOrders = true) {f : FuncId} {fn : Func} {c : Code} {G : Type} {args : G → List RV} {pre : G → Prop} {res : G → RV}
    (cuts : List Nat) (hf : P.funcs[f]? = some fn) (hb : fn.body = some c)
    (hname : (fn.name == "runtime.NumGoroutine") = false) (h6 : fn.results.toList.length ≤ 6)
    (h : ∀ γ, pre γ → bodyK P Γ cuts fn c (spec G args pre res) γ) : Meets P f (spec G args pre res) :=
  meets_of hΓ hmix _ cuts hf hb hname h6 (fun _ _ _ h => by cases h) (fun _ _ _ h => by cases h) (fun _ j h => by cases h) (fun _ _ _ h => by cases h) h
/-- A table of contracts. -/
def tab : List (Nat × FSpec) → FuncId → Option FSpec
  | [], _ => none
  | (i, S) :: l, f => match Nat.beq i f with
    | true => some S
    | false => tab l f
theorem gok_nil (P : Program) : GOK P (tab []) := fun f S h => by cases h
theorem gok_cons {P : Program} {i : Nat} {S : FSpec} {l : List (Nat × FSpec)} (h : Meets P i S) (hl : GOK P (tab l)) : GOK P (tab ((i, S) :: l)) := by
  intro f S' hS
  unfold tab at hS
  split at hS
  · rename_i hb
    have := Nat.eq_of_beq_eq_true hb
    subst this; cases hS; exact h
  · exact hl f S' hS
theorem CallP.go {G : Type} {p : G → List Nat → Prop} (g : G) (h : p g []) : CallP G p := ⟨⟨g, [], h⟩⟩
theorem CallP.go2 {A B : Type} {p : A × B → List Nat → Prop} (a : A) (b : B) (h : p (a, b) []) : CallP (A × B) p := ⟨⟨(a, b), [], h⟩⟩
theorem CallP.go3 {A B C : Type} {p : A × B × C → List Nat → Prop} (a : A) (b : B) (c : C) (h : p (a, b, c) []) : CallP (A × B × C) p := ⟨⟨(a, b, c), [], h⟩⟩
theorem CallP.go0 {p : Unit → List Nat → Prop} (h : p () []) : CallP Unit p := ⟨⟨(), [], h⟩⟩
def uptoN : Nat → List Nat → List Nat
  | 0, l => l
  | n + 1, l => uptoN n (n :: l)
theorem DrawP.go {n : Nat} {p : List Nat → Prop} (h : p (uptoN n [])) : DrawP n p := ⟨⟨_, h⟩⟩
theorem LoopP.go {st : St} {p : (G : Type) → (G → Prop) → (G → St) → (G → Nat) → Prop} (G : Type) (I : G → Prop) (S : G → St) (μ : G → Nat) (h : p G I S μ) : LoopP st p := ⟨⟨G, I, S, μ, h⟩⟩
theorem CutP.go {st : St} {p : (G : Type) → (G → Prop) → (G → St) → Prop} (G : Type) (I : G → Prop) (S : G → St) (h : p G I S) : CutP st p := ⟨⟨G, I, S, h⟩⟩
theorem RangeP.go {p : (G : Type) → (Nat → G → Prop) → (G → List (Nat × Blk)) → (G → Nat) → Prop} (G : Type) (I : Nat → G → Prop) (B : G → List (Nat × Blk)) (N : G → Nat) (h : p G I B N) : RangeP p := ⟨⟨G, I, B, N, h⟩⟩
theorem CutE.go1 {A : Type} {p : A → Prop} {a : A} (h : p a) : CutE A p := ⟨⟨a, h⟩⟩
theorem CutE.go2 {A B : Type} {p : A × B → Prop} {a : A} {b : B} (h : p (a, b)) : CutE (A × B) p := ⟨⟨(a, b), h⟩⟩
theorem CutE.go3 {A B C : Type} {p : A × B × C → Prop} {a : A} {b : B} {c : C} (h : p (a, b, c)) : CutE (A × B × C) p := ⟨⟨(a, b, c), h⟩⟩
theorem CutE.go4 {A B C D : Type} {p : A × B × C × D → Prop} {a : A} {b : B} {c : C} {d : D} (h : p (a, b, c, d)) : CutE (A × B × C × D) p := ⟨⟨(a, b, c, d), h⟩⟩
theorem CutE.go5 {A B C D E : Type} {p : A × B × C × D × E → Prop} {a : A} {b : B} {c : C} {d : D} {e : E} (h : p (a, b, c, d, e)) : CutE (A × B × C × D × E) p := ⟨⟨(a, b, c, d, e), h⟩⟩
theorem CutE.go6 {A B C D E F : Type} {p : A × B × C × D × E × F → Prop} {a : A} {b : B} {c : C} {d : D} {e : E} {f : F} (h : p (a, b, c, d, e, f)) : CutE (A × B × C × D × E × F) p := ⟨⟨(a, b, c, d, e, f), h⟩⟩
theorem EntP.k0 {m : Nat} {p : List Bind → List Nat → Prop} (h : p [] (uptoN m [])) : EntP m m p := ⟨⟨[], _, h⟩⟩
theorem EntP.k1 {m s0 : Nat} {p : List Bind → List Nat → Prop} (h : p [] (uptoN m [s0])) : EntP m (m + 1) p := ⟨⟨[], _, h⟩⟩
theorem EntP.k2 {m s0 s1 : Nat} {p : List Bind → List Nat → Prop} (h : p [] (uptoN m [s0, s1])) : EntP m (m + 2) p := ⟨⟨[], _, h⟩⟩
theorem EntP.k3 {m s0 s1 s2 : Nat} {p : List Bind → List Nat → Prop} (h : p [] (uptoN m [s0, s1, s2])) : EntP m (m + 3) p := ⟨⟨[], _, h⟩⟩
theorem EntP.k4 {m s0 s1 s2 s3 : Nat} {p : List Bind → List Nat → Prop} (h : p [] (uptoN m [s0, s1, s2, s3])) : EntP m (m + 4) p := ⟨⟨[], _, h⟩⟩
theorem EntP.k5 {m s0 s1 s2 s3 s4 : Nat} {p : List Bind → List Nat → Prop} (h : p [] (uptoN m [s0, s1, s2, s3, s4])) : EntP m (m + 5) p := ⟨⟨[], _, h⟩⟩
theorem EntP.k6 {m s0 s1 s2 s3 s4 s5 : Nat} {p : List Bind → List Nat → Prop} (h : p [] (uptoN m [s0, s1, s2, s3, s4, s5])) : EntP m (m + 6) p := ⟨⟨[], _, h⟩⟩
theorem EntP.k7 {m s0 s1 s2 s3 s4 s5 s6 : Nat} {p : List Bind → List Nat → Prop} (h : p [] (uptoN m [s0, s1, s2, s3, s4, s5, s6])) : EntP m (m + 7) p := ⟨⟨[], _, h⟩⟩
theorem EntP.k8 {m s0 s1 s2 s3 s4 s5 s6 s7 : Nat} {p : List Bind → List Nat → Prop} (h : p [] (uptoN m [s0, s1, s2, s3, s4, s5, s6, s7])) : EntP m (m + 8) p := ⟨⟨[], _, h⟩⟩
theorem EntP.at {m n : Nat} {p : List Bind → List Nat → Prop} (zs : List Bind) (σ : List Nat) (h : p zs σ) : EntP m n p := ⟨⟨zs, σ, h⟩⟩
/-- Ghosts of a function that is lent n blocks. -/
structure OwnG (n : Nat) (G : Type) where
  g : G
theorem CallP.nb {G : Type} {p : G → List Nat → Prop} (h : CutE G fun g => p g []) : CallP G p := by
  obtain ⟨g, h⟩ := h
  exact ⟨g, _, h⟩
theorem CallP.own1 {A : Type} {p : OwnG 1 A → List Nat → Prop} {s0 : Nat} (h : CutE A fun a => p ⟨a⟩ [s0]) : CallP (OwnG 1 A) p := by
  obtain ⟨g, h⟩ := h
  exact ⟨_, _, h⟩
theorem CallP.own2 {A : Type} {p : OwnG 2 A → List Nat → Prop} {s0 s1 : Nat} (h : CutE A fun a => p ⟨a⟩ [s0, s1]) : CallP (OwnG 2 A) p := by
  obtain ⟨g, h⟩ := h
  exact ⟨_, _, h⟩
theorem CallP.own3 {A : Type} {p : OwnG 3 A → List Nat → Prop} {s0 s1 s2 : Nat} (h : CutE A fun a => p ⟨a⟩ [s0, s1, s2]) : CallP (OwnG 3 A) p := by
  obtain ⟨g, h⟩ := h
  exact ⟨_, _, h⟩
theorem CallP.own4 {A : Type} {p : OwnG 4 A → List Nat → Prop} {s0 s1 s2 s3 : Nat} (h : CutE A fun a => p ⟨a⟩ [s0, s1, s2, s3]) : CallP (OwnG 4 A) p := by
  obtain ⟨g, h⟩ := h
  exact ⟨_, _, h⟩
theorem CutE.go0 {p : Unit → Prop} (h : p ()) : CutE Unit p := ⟨⟨(), h⟩⟩
theorem CutE.go7 {A B C D E F H : Type} {p : A × B × C × D × E × F × H → Prop} {a : A} {b : B} {c : C} {d : D} {e : E} {f : F} {g : H} (h : p (a, b, c, d, e, f, g)) : CutE (A × B × C × D × E × F × H) p := ⟨⟨(a, b, c, d, e, f, g), h⟩⟩
theorem toNat_i64 {x : Int} (h : 0 ≤ x ∧ x ≤ 9223372036854775807) : (BitVec.ofInt 64 x).toNat = x.toNat := by
  rw [BitVec.toNat_ofInt]
  have : (2 ^ 64 : Nat) = 18446744073709551616 := rfl
  omega
theorem and_i64 {x y : Int} (hx : 0 ≤ x ∧ x ≤ 9223372036854775807) (hy : 0 ≤ y ∧ y ≤ 9223372036854775807) : Go.bits .and .i64 x y = (x.toNat &&& y.toNat : Nat) := by
  show IntKind.i64.wrap ((BitVec.ofInt 64 x &&& BitVec.ofInt 64 y).toNat : Int) = _
  rw [BitVec.toNat_and, toNat_i64 hx, toNat_i64 hy]
  have : x.toNat &&& y.toNat ≤ x.toNat := Nat.and_le_left
  exact wrap_i64 ⟨by omega, by omega⟩
theorem and63 {x : Int} (hx : 0 ≤ x ∧ x ≤ 9223372036854775807) : Go.bits .and .i64 x 63 = x % 64 := by
  rw [and_i64 hx ⟨by omega, by omega⟩]
  have : x.toNat &&& (63 : Int).toNat = x.toNat % 64 := Nat.and_two_pow_sub_one_eq_mod x.toNat 6
  omega
theorem phase_xor1 : ∀ w : Fin 128, Go.bits .and .i64 (Go.bits .xor .i64 (w.val : Int) 1) 64 = if w.val < 64 then 0 else 64 := by decide +kernel
theorem phase_xor65 : ∀ w : Fin 128, Go.bits .and .i64 (Go.bits .xor .i64 (w.val : Int) 65) 64 = if w.val < 64 then 64 else 0 := by decide +kernel
end Go.Eng
namespace Go.Eng
open Go Go.RowKit
theorem osum_none (w : World) : Osum (fun _ => False) noNames (look []) = fun _ => False := by
  funext x
  apply propext
  constructor
  · rintro (h | ⟨j, b, u, hb, _⟩)
    · exact h
    · cases hb
  · exact fun h => h.elim
theorem wrep_none (w : World) : WRep (fun _ => False) noNames (look []) w :=
  ⟨fun j b h => (by cases h), fun i j bi bj hi hj x h => (by cases h), fun x h => h.elim, fun x h => h.elim⟩
theorem calls_true {P : Program} {f : FuncId} {G : Type} {args : G → List RV} {pre : G → Prop} (h : Meets P f (spec G args pre fun _ => .b true)) (γ : G) (hp : pre γ) {w : World} {vals : Array Value}
    (ha : ArgsRel (fun _ => False) w noNames (args γ) vals) : Calls P f vals w fun e w' => e = .returned (.bool true) ∧ Below w.heap.size w w' := by
  have := h.run γ rfl hp (fun _ => False) noNames w vals (fun _ _ => rfl) (by rw [show (spec G args pre fun _ => RV.b true).blks γ = [] from rfl, osum_none w]; exact ha) (wrep_none w)
  refine this.mono ?_
  rintro e w' ⟨v, rfl, hs', h1, h2, h3, h4, h5, h6⟩
  refine ⟨by rw [show v = .bool true from h1.1], ⟨h5.os, h5.tape, h5.output, h5.size, fun k hk => h5.block k hk ?_⟩⟩
  rintro ⟨j, b, u, hb, _⟩
  cases hb
theorem args_int2 (w : World) (a b : Int) : ArgsRel (fun _ => False) w noNames [.i a, .i b] #[.int .i64 a, .int .i64 b] :=
  ⟨rfl, fun i x v hx hv => by
    match i with
    | 0 => simp at hx hv; subst hx; subst hv; exact ⟨rfl, rfl⟩
    | 1 => simp at hx hv; subst hx; subst hv; exact ⟨rfl, rfl⟩
    | n + 2 => simp at hx⟩
/-- A slice of numbers that is read. -/
theorem ints_rel {w : World} {x : Addr} {len cap : Nat} {zs : List Int} (hl : len ≤ cap) (hz : len ≤ zs.length) (hc : ∀ i, i < zs.length → w.cell? (x.add i) = some (.int .i64 (zs.getD i 0))) :
    RVRel (fun _ => False) w (.s (.c (.ro (zs.take len).length 1 false fun i _ => .i ((zs.take len).getD i 0)))) noNames (.slice (some x) len cap) := by
  have hlen : (zs.take len).length = len := by simp; omega
  rw [hlen]
  refine ⟨some x, cap, rfl, hl, (fun h => by cases h), (fun h => by cases h), fun hn => ?_⟩
  have h0 := hc 0 (by omega)
  have hsp : x.spot = none ∧ x.block < w.heap.size := by
    rw [show x.add 0 = x by simp [Addr.add]] at h0
    simp only [World.cell?] at h0
    split at h0
    · rename_i c ty pr hb
      refine ⟨?_, (Array.getElem?_eq_some_iff.1 hb).1⟩
      cases hs : x.spot with
      | none => rfl
      | some s => rw [hs] at h0; simp at h0
    · cases h0
  refine ⟨x.block, x.off, ?_, id, hsp.2, fun i hi t ht => ⟨.int .i64 (zs.getD i 0), ?_, ?_⟩⟩
  · obtain ⟨b, o, s⟩ := x
    simp only at hsp
    rw [hsp.1]
  · have := hc i (by omega)
    have e : x.add i = ⟨x.block, x.off + (i * 1 + t), none⟩ := by
      obtain ⟨b, o, s⟩ := x
      simp only at hsp
      rw [hsp.1, addr_add]
      show (⟨b, o + i, none⟩ : Addr) = ⟨b, o + (i * 1 + t), none⟩
      congr 1; omega
    rw [← e]; exact this
  · have e : (zs.take len).getD i 0 = zs.getD i 0 := by
      rw [List.getD_eq_getElem?_getD, List.getD_eq_getElem?_getD, List.getElem?_take_of_lt hi]
    show Rel _ w (.i ((zs.take len).getD i 0)) noNames _
    rw [e]
    exact ⟨rfl, rfl⟩
theorem ints_nil (w : World) : RVRel (fun _ => False) w (.s (.c (.ro ([] : List Int).length 1 false fun i _ => .i (([] : List Int).getD i 0)))) noNames (.slice none 0 0) :=
  ⟨none, 0, rfl, Nat.le_refl _, (fun h => by cases h), fun _ => rfl, fun h => by simp at h⟩
theorem args_one_rel {w : World} {a : RV} {v : Value} (h : RVRel (fun _ => False) w a noNames v) : ArgsRel (fun _ => False) w noNames [a] #[v] :=
  ⟨rfl, fun i x u hx hu => by
    match i with
    | 0 => simp at hx hu; subst hx; subst hu; exact h
    | n + 1 => simp at hx⟩
end Go.Eng
namespace Go.Eng
open Go
def lookU : List (Nat × RV) → Nat → Option RV
  | [], _ => none
  | (i, v) :: r, j => match Nat.beq i j with
    | true => some v
    | false => lookU r j
/-- The registers that live as they are, but for some; all others forgotten. -/
def maskR (live : List Nat) (us : List (Nat × RV)) : Nat → List RV → List RV
  | _, [] => []
  | i, x :: l => (match lookU us i with
    | some v => v
    | none => match memN i live with
      | true => x
      | false => .any) :: maskR live us (i + 1) l
def putB (j : Nat) (b : Blk) : List (Nat × Blk) → List (Nat × Blk)
  | [] => [(j, b)]
  | (i, c) :: r => match Nat.beq i j with
    | true => (j, b) :: r
    | false => (i, c) :: putB j b r
def updB (bs : List (Nat × Blk)) : List (Nat × Blk) → List (Nat × Blk)
  | [] => bs
  | (j, b) :: us => updB (putB j b bs) us
theorem LoopP.up {regs : List RV} {bs : List (Nat × Blk)} {nx : Nat} {p : (G : Type) → (G → Prop) → (G → St) → (G → Nat) → Prop} {G : Type} (I : G → Prop) (live : List Nat)
    (U : G → List (Nat × RV)) (B : G → List (Nat × Blk)) (nx' : Nat) (μ : G → Nat)
    (h : p G I (fun g => ⟨maskR live (U g) 0 regs, updB bs (B g), nx'⟩) μ) : LoopP ⟨regs, bs, nx⟩ p := ⟨⟨G, I, _, μ, h⟩⟩
theorem CutP.up {regs : List RV} {bs : List (Nat × Blk)} {nx : Nat} {p : (G : Type) → (G → Prop) → (G → St) → Prop} {G : Type} (I : G → Prop) (live : List Nat)
    (U : G → List (Nat × RV)) (B : G → List (Nat × Blk)) (nx' : Nat)
    (h : p G I (fun g => ⟨maskR live (U g) 0 regs, updB bs (B g), nx'⟩)) : CutP ⟨regs, bs, nx⟩ p := ⟨⟨G, I, _, h⟩⟩
/-- A contract with two faces. -/
def FSpec.or (A B : FSpec) : FSpec where
  G := A.G ⊕ B.G
  args := fun | .inl g => A.args g | .inr g => B.args g
  blks := fun | .inl g => A.blks g | .inr g => B.blks g
  pre := fun | .inl g => A.pre g | .inr g => B.pre g
  res := fun | .inl g => A.res g | .inr g => B.res g
  post := fun | .inl g => A.post g | .inr g => B.post g
  yields := fun | .inl g => A.yields g | .inr g => B.yields g
  panics := fun | .inl g => A.panics g | .inr g => B.panics g
  mayPan := A.mayPan || B.mayPan
theorem meets_or {P : Program} {f : FuncId} {A B : FSpec} (ha : Meets P f A) (hb : Meets P f B) : Meets P f (A.or B) where
  pn := fun | .inl g => ha.pn g | .inr g => hb.pn g
  qn := fun | .inl g => ha.qn g | .inr g => hb.qn g
  full := fun | .inl g => ha.full g | .inr g => hb.full g
  kp := fun | .inl g => ha.kp g | .inr g => hb.kp g
  body := ha.body
  iter := fun | .inl g => ha.iter g | .inr g => hb.iter g
  run := fun | .inl g => ha.run g | .inr g => hb.run g
theorem CallP.inl {A B : Type} {p : A ⊕ B → List Nat → Prop} (h : CallP A fun g σ => p (.inl g) σ) : CallP (A ⊕ B) p := by
  obtain ⟨g, σ, h⟩ := h
  exact ⟨_, σ, h⟩
theorem CallP.inr {A B : Type} {p : A ⊕ B → List Nat → Prop} (h : CallP B fun g σ => p (.inr g) σ) : CallP (A ⊕ B) p := by
  obtain ⟨g, σ, h⟩ := h
  exact ⟨_, σ, h⟩
theorem CallP.at {G : Type} {p : G → List Nat → Prop} (g : G) (σ : List Nat) (h : p g σ) : CallP G p := ⟨⟨g, σ, h⟩⟩
def numB : Nat → List Blk → List (Nat × Blk)
  | _, [] => []
  | i, b :: l => (i, b) :: numB (i + 1) l
theorem look_numB : ∀ (l : List Blk) (i j : Nat), look (numB i l) j = if i ≤ j then l[j - i]? else none
  | [], i, j => by simp [numB, look]
  | b :: l, i, j => by
    simp only [numB, look]
    by_cases e : i = j
    · subst e; simp
    · rw [if_neg e, look_numB l (i + 1) j]
      by_cases h : i ≤ j
      · rw [if_pos (by omega), if_pos h, show j - i = (j - (i + 1)) + 1 by omega, List.getElem?_cons_succ]
      · rw [if_neg (by omega), if_neg h]
theorem numB_length : ∀ (l : List Blk) (i : Nat), (numB i l).length = l.length
  | [], _ => rfl
  | _ :: l, i => by simp [numB, numB_length l]
/-- A function that is lent blocks, one for each name. -/
def lentSpec (n : Nat) (G : Type) (args : G → List RV) (blks : G → List Blk) (pre : G → Prop) (res : G → RV) (post : G → List Blk) : FSpec :=
  { G := OwnG n G, args := fun g => args g.g, blks := fun g => numB 0 (blks g.g), pre := fun g => pre g.g, res := fun g => res g.g, post := fun g => numB 0 (post g.g) }
theorem meets_lent (n' : Nat) {P : Program} {Γ : FuncId → Option FSpec} (hΓ : GOK P Γ) (hmix : P.follows .mixedOrders = true) {f : FuncId} {fn : Func} {c : Code} {n : Nat} {G : Type} {args : G → List RV}
    {blks : G → List Blk} {pre : G → Prop} {res : G → RV} {post : G → List Blk}
    (cuts : List Nat) (hf : P.funcs[f]? = some fn) (hb : fn.body = some c)
    (hname : (fn.name == "runtime.NumGoroutine") = false) (h6 : fn.results.toList.length ≤ 6)
    (h1 : ∀ g, (blks g).length = n) (h2 : ∀ g, (post g).length = n') (hn : n ≤ n')
    (h : ∀ γ : G, pre γ → bodyK P Γ cuts fn c (lentSpec n G args blks pre res post) ⟨γ⟩) : Meets P f (lentSpec n G args blks pre res post) :=
  meets_of hΓ hmix _ cuts hf hb hname h6
    (fun ⟨g⟩ j b hj => by
      have hj : look (numB 0 (blks g)) j = some b := hj
      rw [look_numB, if_pos (Nat.zero_le _)] at hj
      show j < (numB 0 (blks g)).length
      rw [numB_length]
      exact (List.getElem?_eq_some_iff.1 hj).1)
    (fun ⟨g⟩ j b hj => by
      have hj : look (numB 0 (post g)) j = some b := hj
      rw [look_numB, if_pos (Nat.zero_le _)] at hj
      show j < (numB 0 (post g)).length
      rw [numB_length]
      exact (List.getElem?_eq_some_iff.1 hj).1)
    (fun ⟨g⟩ j hj => by
      have hj : j < (numB 0 (blks g)).length := hj
      rw [numB_length] at hj
      show ∃ b, look (numB 0 (blks g)) j = some b
      rw [look_numB, if_pos (Nat.zero_le _)]
      exact ⟨_, List.getElem?_eq_getElem (by simpa using hj)⟩)
    (fun ⟨g⟩ j b hj => by
      have hj : look (numB 0 (blks g)) j = some b := hj
      rw [look_numB, if_pos (Nat.zero_le _)] at hj
      have hlt := (List.getElem?_eq_some_iff.1 hj).1
      show ∃ b, look (numB 0 (post g)) j = some b
      rw [look_numB, if_pos (Nat.zero_le _)]
      exact ⟨_, List.getElem?_eq_getElem (by have := h1 g; have := h2 g; omega)⟩)
    (fun ⟨g⟩ hp => h g hp)
theorem CutE.at {A : Type} {p : A → Prop} (a : A) (h : p a) : CutE A p := ⟨⟨a, h⟩⟩
section
variable {α : Type} [Inhabited α] {enc : α → List Cell}
def encI (x : Int) : List Cell := [.i x]
/-- The elements of a list as a slice's cells. -/
def slG (enc : α → List Cell) (l : List α) : Nat → Nat → Cell := fun i t => (enc (l.getD i default)).getD t .any
/-- A list that is read as a slice. -/
abbrev slC (k : Nat) (enc : α → List Cell) (l : List α) : Cell := .ro l.length k false (slG enc l)
theorem slG_set {l : List α} {k i : Nat} {x : α} (hk : ∀ x, (enc x).length = k) (hi : i < l.length) : ∀ i', i' < l.length → ∀ t, t < k → upd2 (slG enc l) i 0 (enc x) i' t = slG enc (l.set i x) i' t := by
  intro i' h' t ht
  unfold upd2 slG
  by_cases e : i' = i
  · subst e
    rw [if_pos ⟨rfl, by omega, by rw [hk]; omega⟩]
    simp [List.getD_eq_getElem?_getD, hi]
  · rw [if_neg (by simp [e])]
    simp [List.getD_eq_getElem?_getD, List.getElem?_set_ne (Ne.symm e)]
theorem slG_append {l r : List α} (i t : Nat) : catG l.length (slG enc l) (slG enc r) i t = slG enc (l ++ r) i t := by
  unfold catG slG
  by_cases h : i < l.length
  · rw [if_pos h]
    simp [List.getD_eq_getElem?_getD, List.getElem?_append_left h]
  · rw [if_neg h]
    simp [List.getD_eq_getElem?_getD, List.getElem?_append_right (Nat.le_of_not_lt h)]
theorem slG_lit {k : Nat} {x : α} (hk : (enc x).length = k) : ∀ i, i < 1 → ∀ t, t < k → litG k (enc x) i t = slG enc [x] i t := by
  intro i hi t ht
  obtain rfl : i = 0 := by omega
  simp [litG, slG]
theorem slG_snoc {l : List α} {k n : Nat} {x : α} (hn : n = l.length) (hk : (enc x).length = k) (i : Nat) (hi : i < n + 1) (t : Nat) (ht : t < k) :
    catG n (slG enc l) (litG k (enc x)) i t = slG enc (l ++ [x]) i t := by
  subst hn
  rw [← slG_append]
  unfold catG
  split
  · rfl
  · exact slG_lit hk _ (by omega) t ht
theorem slG_drop (l : List α) (a i t : Nat) : slG enc l (a + i) t = slG enc (l.drop a) i t := by
  simp [slG, List.getD_eq_getElem?_getD]
theorem slG_take (l : List α) (n i t : Nat) (h : i < n) : slG enc (l.take n) i t = slG enc l i t := by
  simp [slG, List.getD_eq_getElem?_getD, List.getElem?_take_of_lt h]
end
theorem wrap_add1 {n : Nat} (h : n < 9223372036854775807) : IntKind.i64.wrap ((n : Int) + 1) = ((n + 1 : Nat) : Int) := by
  rw [wrap_i64 ⟨by omega, by omega⟩]; rfl
end Go.Eng
namespace Go.Eng
theorem drop_getD {α : Type} {l : List α} {k : Nat} {d : α} (h : k < l.length) : l.drop k = l.getD k d :: l.drop (k + 1) := by
  rw [List.drop_eq_getElem_cons h, List.getD_eq_getElem?_getD, List.getElem?_eq_getElem h]; rfl
theorem take_getD {α : Type} {l : List α} {k : Nat} {d : α} (h : k < l.length) : l.take (k + 1) = l.take k ++ [l.getD k d] := by
  rw [List.take_add_one, List.getD_eq_getElem?_getD, List.getElem?_eq_getElem h]; rfl
end Go.Eng
namespace Go.Eng
theorem wrapS {n : Nat} (h : n < 9223372036854775807) : ((n + 1 : Nat) : Int) = IntKind.i64.wrap ((n : Int) + 1) := (wrap_add1 h).symm
end Go.Eng
namespace Go.Eng
/-- l[:min(len(l), m)]. -/
theorem take_len {α : Type} {l : List α} {m : Nat} : (l.take m).length = ((if (m : Int) < (l.length : Int) then (m : Int) else (l.length : Int)) - 0).toNat := by
  rw [List.length_take]; split <;> omega
theorem take_lo {α : Type} {l : List α} {m : Nat} : (0 : Int) ≤ if (m : Int) < (l.length : Int) then (m : Int) else (l.length : Int) := by split <;> omega
theorem take_hi {α : Type} {l : List α} {m : Nat} : (if (m : Int) < (l.length : Int) then (m : Int) else (l.length : Int)) ≤ l.length := by split <;> omega
theorem take_cell {α : Type} [Inhabited α] {enc : α → List Cell} {l : List α} {m : Nat} (i : Nat) (h : i < (l.take m).length) (t : Nat) : slG enc (l.take m) i t = (fun i t => slG enc l (Int.toNat 0 + i) t) i t := by
  have : i < m := by rw [List.length_take] at h; omega
  rw [slG_take _ _ _ _ this]
  show _ = slG enc l (0 + i) t
  rw [Nat.zero_add]
end Go.Eng
namespace Go.Eng
/-- So far. -/
structure Up (k : Nat) (p : Nat → Prop) : Prop where
  get : ∀ i, i < k → p i
theorem Up.zero (p : Nat → Prop) : Up 0 p := ⟨fun i h => by omega⟩
theorem Up.succ {k : Nat} {p : Nat → Prop} (h : Up k p) (hk : p k) : Up (k + 1) p := ⟨fun i hi => by
  rcases Nat.lt_or_ge i k with h' | h'
  · exact h.get i h'
  · have : i = k := by omega
    subst this; exact hk⟩
end Go.Eng
namespace Go.Eng
theorem CallP.own0 {A : Type} {p : OwnG 0 A → List Nat → Prop} (h : CutE A fun a => p ⟨a⟩ []) : CallP (OwnG 0 A) p := by
  obtain ⟨g, h⟩ := h
  exact ⟨_, _, h⟩
end Go.Eng
namespace Go.Eng
theorem slG_set1 {l : List Int} {i : Nat} {x : Int} {i' t : Nat} (hi : i < l.length) (h' : i' < (l.set i x).length) (ht : t < 1) : slG encI (l.set i x) i' t = upd2 (slG encI l) i 0 (Sv.c (Cell.v (Value.int IntKind.i64 x))).cells i' t :=
  (slG_set (enc := encI) (k := 1) (fun _ => rfl) hi i' (by simpa using h') t ht).symm
theorem slG_rep1 {n i t : Nat} {x : Int} (hi : i < n) (ht : t < 1) : slG encI (List.replicate n x) i t = [Cell.v (Value.int IntKind.i64 x)].getD t Cell.any := by
  obtain rfl : t = 0 := by omega
  simp [slG, encI, List.getD_eq_getElem?_getD, List.getElem?_replicate, hi]
end Go.Eng
namespace Go.Eng
theorem slG_take1 {α : Type} [Inhabited α] {enc : α → List Cell} {L : List α} {k q i t : Nat} {cs : List Cell} (hk : k < L.length) (hq : cs.length = q) (hi : i < k + 1) (ht : t < q) (hc : cs = enc (L.getD k default)) :
    slG enc (L.take (k + 1)) i t = catG k (slG enc (L.take k)) (litG q cs) i t := by
  rw [take_getD (d := default) hk]
  have h := slG_snoc (enc := enc) (l := L.take k) (k := q) (n := k) (x := L.getD k default) (by simp; omega) (by rw [← hc]; exact hq) i hi t ht
  rw [← hc] at h
  exact h.symm
theorem slG_all {α : Type} [Inhabited α] {enc : α → List Cell} {L : List α} {k i t : Nat} (hk : L.length ≤ k) : slG enc L i t = slG enc (L.take k) i t := by
  rw [List.take_of_length_le hk]
end Go.Eng
namespace Go.Eng
/-- The names as they are. -/
theorem EntP.id {m : Nat} (n : Nat) {p : List Bind → List Nat → Prop} (h : p [] (uptoN n [])) : EntP m n p := ⟨⟨[], _, h⟩⟩
end Go.Eng
namespace Go.Eng
theorem lenNil {α : Type} : ([] : List α).length = 0 := rfl
end Go.Eng
namespace Go.Eng
open Go
/-- A function's body, reckoned (the code is the function's own). -/
def bodyF (P : Program) (Γ : FuncId → Option FSpec) (cuts : List Nat) (fn : Func) (S : FSpec) (γ : S.G) : Prop :=
  match fn.body with
  | some c => bodyK P Γ cuts fn c S γ
  | none => False
end Go.Eng
namespace Go.Eng
open Go Go.RowKit Go.ChangeShapes Go.WideShapes
/-- Cells that lie in a world. -/
def RelL (w : World) (l : List Cell) (cs : List Value) : Prop :=
  l.length = cs.length ∧ ∀ (i : Nat) (c : Cell) (u : Value), l[i]? = some c → cs[i]? = some u → Rel (fun _ => False) w c noNames u
/-- A type's values are read as α's. -/
structure Opens (P : Program) (t : TypeId) {α : Type} (k : Nat) (e : α → List Cell) (ok : α → Prop) : Prop where
  size : P.cellsOf t = k
  len : ∀ a, ok a → (e a).length = k
  read : ∀ {H : Type} (nm : TypeId × Value → H) (w : World) (base : Nat) (spare : Nat → Bool) (held : Bool) (fuel : Nat) (cs : List Value) (x : DataW H × List MemPlace),
    DataW.trod nm P w base spare held fuel t cs = some x → ∃ a, ok a ∧ RelL w (e a) cs
def OkI (x : Int) : Prop := -9223372036854775808 ≤ x ∧ x ≤ 9223372036854775807
theorem wf_ok {x : Int} (h : (Lit.int .i64 x).wf = true) : OkI x := by
  simp only [Lit.wf, Bool.and_eq_true, decide_eq_true_eq] at h
  exact h
theorem relL_one {w : World} {c : Cell} {u : Value} (h : Rel (fun _ => False) w c noNames u) : RelL w [c] [u] :=
  ⟨rfl, fun i c' u' hc hu => by
    cases i with
    | zero => simp at hc hu; subst hc; subst hu; exact h
    | succ i => simp at hc⟩
theorem Opens.int {P : Program} {t : TypeId} (ht : P.underlying t = some (.int .i64)) (hs : P.cellsOf t = 1) : Opens P t 1 encI OkI where
  size := hs
  len := fun _ _ => rfl
  read := fun nm w base spare held fuel cs x h => by
    obtain ⟨n, rfl, rfl, hw⟩ := DataW.trod_int ht h
    exact ⟨n, wf_ok hw, relL_one ⟨rfl, rfl⟩⟩
def encB (x : Bool) : List Cell := [.b x]
theorem Opens.bool {P : Program} {t : TypeId} (ht : P.underlying t = some .bool) (hs : P.cellsOf t = 1) : Opens P t 1 encB (fun _ => True) where
  size := hs
  len := fun _ _ => rfl
  read := fun nm w base spare held fuel cs x h => by
    obtain ⟨n, rfl, rfl⟩ := DataW.trod_bool ht h
    exact ⟨n, trivial, relL_one ⟨rfl, rfl⟩⟩
def encF (x : Nat) : List Cell := [.v (.float .f64 x)]
theorem trod_float {H : Type} {nm : TypeId × Value → H} {P : Program} {w : World} {base : Nat} {spare : Nat → Bool} {held : Bool} {fuel : Nat} {t : TypeId} {cs : List Value} {x : DataW H × List MemPlace} {k : FloatKind}
    (ht : P.underlying t = some (.float k)) (h : DataW.trod nm P w base spare held fuel t cs = some x) : ∃ n, cs = [.float k n] ∧ (Lit.float k n).wf = true := by
  cases fuel with
  | zero => simp [DataW.trod] at h
  | succ n =>
    unfold DataW.trod at h
    rw [ht] at h
    split at h <;> simp_all
theorem Opens.float {P : Program} {t : TypeId} (ht : P.underlying t = some (.float .f64)) (hs : P.cellsOf t = 1) : Opens P t 1 encF (fun n => n < 2 ^ 64) where
  size := hs
  len := fun _ _ => rfl
  read := fun nm w base spare held fuel cs x h => by
    obtain ⟨n, rfl, hw⟩ := trod_float ht h
    exact ⟨n, by simpa [Lit.wf] using hw, relL_one ⟨rfl, rfl⟩⟩
theorem rel_ro_congr {O : Nat → Prop} {w : World} {n k : Nat} {tt : Bool} {g g' : Nat → Nat → Cell} {u : Value} (he : ∀ i, i < n → ∀ t, t < k → g i t = g' i t) (h : Rel O w (.ro n k tt g) noNames u) :
    Rel O w (.ro n k tt g') noNames u := by
  obtain ⟨a, cap, h1, h2, h3, h4, h5⟩ := h
  refine ⟨a, cap, h1, h2, h3, h4, fun hn => ?_⟩
  obtain ⟨b, off, h6, h7, h8, h9⟩ := h5 hn
  refine ⟨b, off, h6, h7, h8, fun i hi t ht => ?_⟩
  obtain ⟨x, h10, h11⟩ := h9 i hi t ht
  exact ⟨x, h10, he i hi t ht ▸ h11⟩
theorem addr_plain {w : World} {a : Addr} {x : Value} (h : w.cell? a = some x) : a = ⟨a.block, a.off, none⟩ ∧ a.block < w.heap.size := by
  simp only [World.cell?] at h
  split at h
  · rename_i c ty pr hb
    refine ⟨?_, (Array.getElem?_eq_some_iff.1 hb).1⟩
    obtain ⟨b, o, s⟩ := a
    cases hs : s with
    | none => rfl
    | some s => subst hs; simp at h
  · cases h
theorem Opens.slice {P : Program} {t et : TypeId} {α : Type} [Inhabited α] {k : Nat} {e : α → List Cell} {ok : α → Prop} (ht : P.underlying t = some (.slice et)) (hs : P.cellsOf t = 1) (hk : 1 ≤ k)
    (h : Opens P et k e ok) : Opens P t 1 (fun l : List α => [slC k e l]) (fun l => l.length ≤ maxLen ∧ ∀ a ∈ l, ok a) where
  size := hs
  len := fun _ _ => rfl
  read := fun {H} nm w base spare held fuel cs x hx => by
    rcases DataW.trod_slice ht hx with ⟨rfl, rfl⟩ | ⟨a, len, cap, elems, rest, n, _, rfl, rfl, hb, hl, hm, hlen, hel, hsp, hns⟩
    · refine ⟨[], ⟨by simp, by simp⟩, relL_one ?_⟩
      exact ⟨none, 0, rfl, Nat.le_refl _, (fun h => by cases h), fun _ => rfl, fun h => by simp at h⟩
    · have hi : ∀ i, i < len → ∃ y, ok y ∧ ∃ cs, (∀ j, j < k → w.cell? ((a.add (i * k)).add j) = cs[j]?) ∧ RelL w (e y) cs := by
        intro i hi
        have h0 := hel i hi
        rw [h.size, List.getElem?_eq_getElem (by omega)] at h0
        rw [Option.bind_eq_some_iff] at h0
        obtain ⟨cs, h1, h2⟩ := h0
        obtain ⟨y, h3, h4⟩ := h.read nm w base spare held n cs _ h2
        exact ⟨y, h3, cs, (World.cells?_some h1).2.2, h4⟩
      classical
      let f : Nat → α := fun i => if hi' : i < len then Classical.choose (hi i hi') else default
      have hf : ∀ i, i < len → ok (f i) ∧ ∃ cs, (∀ j, j < k → w.cell? ((a.add (i * k)).add j) = cs[j]?) ∧ RelL w (e (f i)) cs := by
        intro i hi'
        simp only [f, dif_pos hi']
        exact Classical.choose_spec (hi i hi')
      have hll : ((List.range len).map f).length = len := by simp
      refine ⟨(List.range len).map f, ⟨by omega, fun y hy => ?_⟩, relL_one ?_⟩
      · obtain ⟨i, hi, rfl⟩ := List.mem_map.1 hy
        exact (hf i (by simpa using hi)).1
      · refine ⟨some a, cap, by rw [hll], by omega, (fun h => by cases h), (fun h => by cases h), fun hn => ?_⟩
        rw [hll] at hn
        obtain ⟨y0, hy0, cs0, h0, h0'⟩ := hi 0 hn
        have hc0 : cs0.length = k := by rw [← h0'.1, h.len _ hy0]
        have h00 := h0 0 (by omega)
        rw [List.getElem?_eq_getElem (by omega)] at h00
        have hp := addr_plain (a := a) (x := cs0[0]) (by simpa [Addr.add] using h00)
        clear h00 h0
        refine ⟨a.block, a.off, congrArg some hp.1, id, hp.2, fun i hi' j hj => ?_⟩
        rw [hll] at hi'
        obtain ⟨hok, cs, h5, h6⟩ := hf i hi'
        have hlc : cs.length = k := by rw [← h6.1, h.len _ hok]
        refine ⟨cs[j], ?_, ?_⟩
        · have := h5 j hj
          rw [List.getElem?_eq_getElem (by omega)] at this
          rw [← this]
          rw [hp.1, addr_add, addr_add]
          show w.cell? ⟨a.block, a.off + (i * k + j), none⟩ = w.cell? ⟨a.block, a.off + i * k + j, none⟩
          rw [Nat.add_assoc]
        · have hlj : j < (e (f i)).length := by rw [h6.1]; omega
          have h7 := h6.2 j (e (f i))[j] cs[j] (List.getElem?_eq_getElem _) (List.getElem?_eq_getElem _)
          have e1 : slG e ((List.range len).map f) i j = (e (f i))[j] := by
            simp [slG, List.getD_eq_getElem?_getD, hi', hlj]
          rw [e1]; exact h7
/-- Fields one behind the other. -/
structure OpensF (P : Program) (fs : List Field) (off : Nat) {α : Type} (k : Nat) (e : α → List Cell) (ok : α → Prop) : Prop where
  len : ∀ a, ok a → (e a).length = k
  read : ∀ {H : Type} (nm : TypeId × Value → H) (w : World) (base : Nat) (spare : Nat → Bool) (held : Bool) (fuel : Nat) (cs : List Value),
    off + k ≤ cs.length → (∀ f ∈ fs, ∃ x, DataW.trod nm P w base spare held fuel f.type ((cs.drop f.offset).take (P.cellsOf f.type)) = some x) → ∃ a, ok a ∧ RelL w (e a) ((cs.drop off).take k)
theorem OpensF.nil {P : Program} {off : Nat} : OpensF P [] off 0 (fun _ : Unit => []) (fun _ => True) where
  len := fun _ _ => rfl
  read := fun nm w base spare held fuel cs hl hf => ⟨(), trivial, by simp, fun i c u h => by simp at h⟩
theorem relL_append {w : World} {l1 l2 : List Cell} {c1 c2 : List Value} (h1 : RelL w l1 c1) (h2 : RelL w l2 c2) : RelL w (l1 ++ l2) (c1 ++ c2) := by
  refine ⟨by simp [h1.1, h2.1], fun i c u hc hu => ?_⟩
  by_cases h : i < l1.length
  · rw [List.getElem?_append_left h] at hc
    rw [List.getElem?_append_left (by rw [← h1.1]; exact h)] at hu
    exact h1.2 i c u hc hu
  · rw [List.getElem?_append_right (by omega)] at hc
    rw [List.getElem?_append_right (by rw [← h1.1]; omega), ← h1.1] at hu
    exact h2.2 _ c u hc hu
theorem OpensF.cons {P : Program} {f : Field} {fs : List Field} {off k1 k2 : Nat} {α β : Type} {e1 : α → List Cell} {e2 : β → List Cell} {ok1 : α → Prop} {ok2 : β → Prop} (ho : f.offset = off) (h1 : Opens P f.type k1 e1 ok1)
    (h2 : OpensF P fs (off + k1) k2 e2 ok2) : OpensF P (f :: fs) off (k1 + k2) (fun x : α × β => e1 x.1 ++ e2 x.2) (fun x => ok1 x.1 ∧ ok2 x.2) where
  len := fun a h => by simp [h1.len _ h.1, h2.len _ h.2]
  read := fun nm w base spare held fuel cs hl hf => by
    obtain ⟨x, hx⟩ := hf f (by simp)
    obtain ⟨a, ha, hra⟩ := h1.read nm w base spare held fuel _ x hx
    obtain ⟨b, hb, hrb⟩ := h2.read nm w base spare held fuel cs (by omega) (fun g hg => hf g (by simp [hg]))
    refine ⟨(a, b), ⟨ha, hb⟩, ?_⟩
    have e : (cs.drop off).take (k1 + k2) = (cs.drop f.offset).take (P.cellsOf f.type) ++ (cs.drop (off + k1)).take k2 := by
      rw [ho, h1.size, List.take_add, List.drop_drop]
    rw [e]
    exact relL_append hra hrb
theorem Opens.struct {P : Program} {t : TypeId} {fs : Array Field} {α : Type} {k : Nat} {e : α → List Cell} {ok : α → Prop} (ht : P.underlying t = some (.struct fs)) (hs : P.cellsOf t = k) (h : OpensF P fs.toList 0 k e ok) :
    Opens P t k e ok where
  size := hs
  len := h.len
  read := fun nm w base spare held fuel cs x hx => by
    obtain ⟨xs, n, _, _, hl, hxl, hf⟩ := DataW.trod_struct ht hx
    obtain ⟨a, ha, hr⟩ := h.read nm w base spare held n cs (by omega) (fun f hf' => by
      obtain ⟨i, hi, he⟩ := List.getElem_of_mem hf'
      have hi' : i < fs.size := by simpa using hi
      have := hf i f (by rw [Array.getElem?_eq_getElem hi']; simpa using he)
      rw [List.getElem?_eq_getElem (by omega)] at this
      exact ⟨_, this⟩)
    refine ⟨a, ha, ?_⟩
    have : (cs.drop 0).take k = cs := by rw [List.drop_zero, List.take_of_length_le (by omega)]
    rw [this] at hr
    exact hr
theorem Opens.map {P : Program} {t : TypeId} {α β : Type} {k : Nat} {e : α → List Cell} {ok : α → Prop} {e' : β → List Cell} {ok' : β → Prop} (h : Opens P t k e ok) (f : α → β) (h1 : ∀ a, ok a → e' (f a) = e a) (h2 : ∀ a, ok a → ok' (f a))
    (h3 : ∀ b, ok' b → (e' b).length = k) : Opens P t k e' ok' where
  size := h.size
  len := h3
  read := fun nm w base spare held fuel cs x hx => by
    obtain ⟨a, ha, hr⟩ := h.read nm w base spare held fuel cs x hx
    exact ⟨f a, h2 a ha, by rw [h1 a ha]; exact hr⟩
/-- An array of n. -/
theorem Opens.array {P : Program} {t et : TypeId} {n : Nat} {α : Type} {k : Nat} {e : α → List Cell} {ok : α → Prop} (ht : P.underlying t = some (.array n et)) (hs : P.cellsOf t = n * k) (h : Opens P et k e ok) :
    Opens P t (n * k) (fun l : List α => l.flatMap e) (fun l => l.length = n ∧ ∀ a ∈ l, ok a) where
  size := hs
  len := fun l hl => by
    rw [← hl.1]
    have h2 := hl.2
    clear hl
    induction l with
    | nil => simp
    | cons a l ih =>
      simp only [List.flatMap_cons, List.length_append, List.length_cons]
      rw [h.len a (h2 a (by simp)), ih (fun b hb => h2 b (by simp [hb])), Nat.add_mul]
      omega
  read := fun {H} nm w base spare held fuel cs x hx => by
    obtain ⟨xs, m, _, _, hl, hxl, hf⟩ := DataW.trod_array ht hx
    have hi : ∀ i, i < n → ∃ y, ok y ∧ RelL w (e y) ((cs.drop (i * k)).take k) := by
      intro i hi
      have := hf i hi
      rw [List.getElem?_eq_getElem (by omega), h.size] at this
      obtain ⟨y, h1, h2⟩ := h.read nm w base spare held m _ _ this
      exact ⟨y, h1, h2⟩
    have key : ∀ m, m ≤ n → ∃ l : List α, l.length = m ∧ (∀ a ∈ l, ok a) ∧ RelL w (l.flatMap e) (cs.take (m * k)) := by
      intro m
      induction m with
      | zero => intro _; exact ⟨[], rfl, by simp, by simp, fun i c u h => by simp at h⟩
      | succ m ih =>
        intro hm
        obtain ⟨l, h1, h2, h3⟩ := ih (by omega)
        obtain ⟨y, h4, h5⟩ := hi m (by omega)
        refine ⟨l ++ [y], by simp [h1], fun a ha => ?_, ?_⟩
        · rcases List.mem_append.1 ha with ha | ha
          · exact h2 a ha
          · simp at ha; subst ha; exact h4
        · rw [List.flatMap_append, Nat.add_mul, Nat.one_mul, List.take_add]
          refine relL_append h3 ?_
          simpa using h5
    obtain ⟨l, h1, h2, h3⟩ := key n (Nat.le_refl _)
    refine ⟨l, ⟨h1, h2⟩, ?_⟩
    rwa [List.take_of_length_le (by omega)] at h3
/-- An argument of one cell. -/
theorem Opens.arg1 {P : Program} {t : TypeId} {α : Type} {e : α → List Cell} {c : α → Cell} {ok : α → Prop} (h : Opens P t 1 e ok) (hc : ∀ a, e a = [c a]) {H : Type} {nm : TypeId × Value → H} {w : World} {base : Nat} {spare : Nat → Bool} {held : Bool} {v : Value} {d : DataW H} {ps : List MemPlace}
    (hv : v.cells = #[v]) (hx : DataW.Trod nm P w base spare held t v d ps) : ∃ a, ok a ∧ RVRel (fun _ => False) w (.s (.c (c a))) noNames v := by
  obtain ⟨fuel, hx⟩ := hx
  rw [hv] at hx
  obtain ⟨a, ha, hr⟩ := h.read nm w base spare held fuel _ _ hx
  rw [hc] at hr
  exact ⟨a, ha, hr.2 0 _ _ rfl rfl⟩
/-- An argument of several. -/
theorem Opens.argN {P : Program} {t : TypeId} {α : Type} {k : Nat} {e : α → List Cell} {ok : α → Prop} (h : Opens P t k e ok) {H : Type} {nm : TypeId × Value → H} {w : World} {base : Nat} {spare : Nat → Bool} {held : Bool} {cs : Array Value} {d : DataW H} {ps : List MemPlace}
    (hx : DataW.Trod nm P w base spare held t (.agg cs) d ps) : ∃ a, ok a ∧ RVRel (fun _ => False) w (.s (.agg (e a))) noNames (.agg cs) := by
  obtain ⟨fuel, hx⟩ := hx
  obtain ⟨a, ha, hr⟩ := h.read nm w base spare held fuel _ _ hx
  have hr : RelL w (e a) cs.toList := hr
  exact ⟨a, ha, cs, rfl, by simpa using hr.1.symm, fun i c u hc hu => hr.2 i c u hc (by simpa using hu)⟩
theorem argsRel_nil {w : World} : ArgsRel (fun _ => False) w noNames [] #[] := ⟨rfl, fun i x v hx => by simp at hx⟩
theorem argsRel_of {w : World} {l : List RV} {vs : List Value} (hl : l.length = vs.length) (h : ∀ (i : Nat) a v, l[i]? = some a → vs[i]? = some v → RVRel (fun _ => False) w a noNames v) :
    ArgsRel (fun _ => False) w noNames l vs.toArray := ⟨by simp [hl], fun i x v hx hv => h i x v hx (by simpa using hv)⟩
theorem args1 {w : World} {a : RV} {u : Value} (h : RVRel (fun _ => False) w a noNames u) : ArgsRel (fun _ => False) w noNames [a] #[u] := args_one_rel h
theorem args2 {w : World} {a b : RV} {u v : Value} (h : RVRel (fun _ => False) w a noNames u) (k : RVRel (fun _ => False) w b noNames v) : ArgsRel (fun _ => False) w noNames [a, b] #[u, v] :=
  argsRel_of (vs := [u, v]) rfl fun i x y hx hy => by
    match i with
    | 0 => simp at hx hy; subst hx; subst hy; exact h
    | 1 => simp at hx hy; subst hx; subst hy; exact k
    | n + 2 => simp at hx
theorem args3 {w : World} {a b c : RV} {u v x : Value} (h : RVRel (fun _ => False) w a noNames u) (k : RVRel (fun _ => False) w b noNames v) (l : RVRel (fun _ => False) w c noNames x) :
    ArgsRel (fun _ => False) w noNames [a, b, c] #[u, v, x] :=
  argsRel_of (vs := [u, v, x]) rfl fun i p q hp hq => by
    match i with
    | 0 => simp at hp hq; subst hp; subst hq; exact h
    | 1 => simp at hp hq; subst hp; subst hq; exact k
    | 2 => simp at hp hq; subst hp; subst hq; exact l
    | n + 3 => simp at hp
theorem args4 {w : World} {a b c d : RV} {u v x y : Value} (h : RVRel (fun _ => False) w a noNames u) (k : RVRel (fun _ => False) w b noNames v) (l : RVRel (fun _ => False) w c noNames x) (m : RVRel (fun _ => False) w d noNames y) :
    ArgsRel (fun _ => False) w noNames [a, b, c, d] #[u, v, x, y] :=
  argsRel_of (vs := [u, v, x, y]) rfl fun i p q hp hq => by
    match i with
    | 0 => simp at hp hq; subst hp; subst hq; exact h
    | 1 => simp at hp hq; subst hp; subst hq; exact k
    | 2 => simp at hp hq; subst hp; subst hq; exact l
    | 3 => simp at hp hq; subst hp; subst hq; exact m
    | n + 4 => simp at hp
theorem args5 {w : World} {a0 a1 a2 a3 a4 : RV} {u0 u1 u2 u3 u4 : Value} (h0 : RVRel (fun _ => False) w a0 noNames u0) (h1 : RVRel (fun _ => False) w a1 noNames u1) (h2 : RVRel (fun _ => False) w a2 noNames u2) (h3 : RVRel (fun _ => False) w a3 noNames u3) (h4 : RVRel (fun _ => False) w a4 noNames u4) :
    ArgsRel (fun _ => False) w noNames [a0, a1, a2, a3, a4] #[u0, u1, u2, u3, u4] :=
  argsRel_of (vs := [u0, u1, u2, u3, u4]) rfl fun i p q hp hq => by
    match i with
    | 0 => simp at hp hq; subst hp; subst hq; exact h0
    | 1 => simp at hp hq; subst hp; subst hq; exact h1
    | 2 => simp at hp hq; subst hp; subst hq; exact h2
    | 3 => simp at hp hq; subst hp; subst hq; exact h3
    | 4 => simp at hp hq; subst hp; subst hq; exact h4
    | n + 5 => simp at hp
theorem args6 {w : World} {a0 a1 a2 a3 a4 a5 : RV} {u0 u1 u2 u3 u4 u5 : Value} (h0 : RVRel (fun _ => False) w a0 noNames u0) (h1 : RVRel (fun _ => False) w a1 noNames u1) (h2 : RVRel (fun _ => False) w a2 noNames u2) (h3 : RVRel (fun _ => False) w a3 noNames u3) (h4 : RVRel (fun _ => False) w a4 noNames u4) (h5 : RVRel (fun _ => False) w a5 noNames u5) :
    ArgsRel (fun _ => False) w noNames [a0, a1, a2, a3, a4, a5] #[u0, u1, u2, u3, u4, u5] :=
  argsRel_of (vs := [u0, u1, u2, u3, u4, u5]) rfl fun i p q hp hq => by
    match i with
    | 0 => simp at hp hq; subst hp; subst hq; exact h0
    | 1 => simp at hp hq; subst hp; subst hq; exact h1
    | 2 => simp at hp hq; subst hp; subst hq; exact h2
    | 3 => simp at hp hq; subst hp; subst hq; exact h3
    | 4 => simp at hp hq; subst hp; subst hq; exact h4
    | 5 => simp at hp hq; subst hp; subst hq; exact h5
    | n + 6 => simp at hp
theorem args7 {w : World} {a0 a1 a2 a3 a4 a5 a6 : RV} {u0 u1 u2 u3 u4 u5 u6 : Value} (h0 : RVRel (fun _ => False) w a0 noNames u0) (h1 : RVRel (fun _ => False) w a1 noNames u1) (h2 : RVRel (fun _ => False) w a2 noNames u2) (h3 : RVRel (fun _ => False) w a3 noNames u3) (h4 : RVRel (fun _ => False) w a4 noNames u4) (h5 : RVRel (fun _ => False) w a5 noNames u5) (h6 : RVRel (fun _ => False) w a6 noNames u6) :
    ArgsRel (fun _ => False) w noNames [a0, a1, a2, a3, a4, a5, a6] #[u0, u1, u2, u3, u4, u5, u6] :=
  argsRel_of (vs := [u0, u1, u2, u3, u4, u5, u6]) rfl fun i p q hp hq => by
    match i with
    | 0 => simp at hp hq; subst hp; subst hq; exact h0
    | 1 => simp at hp hq; subst hp; subst hq; exact h1
    | 2 => simp at hp hq; subst hp; subst hq; exact h2
    | 3 => simp at hp hq; subst hp; subst hq; exact h3
    | 4 => simp at hp hq; subst hp; subst hq; exact h4
    | 5 => simp at hp hq; subst hp; subst hq; exact h5
    | 6 => simp at hp hq; subst hp; subst hq; exact h6
    | n + 7 => simp at hp
theorem args8 {w : World} {a0 a1 a2 a3 a4 a5 a6 a7 : RV} {u0 u1 u2 u3 u4 u5 u6 u7 : Value} (h0 : RVRel (fun _ => False) w a0 noNames u0) (h1 : RVRel (fun _ => False) w a1 noNames u1) (h2 : RVRel (fun _ => False) w a2 noNames u2) (h3 : RVRel (fun _ => False) w a3 noNames u3) (h4 : RVRel (fun _ => False) w a4 noNames u4) (h5 : RVRel (fun _ => False) w a5 noNames u5) (h6 : RVRel (fun _ => False) w a6 noNames u6) (h7 : RVRel (fun _ => False) w a7 noNames u7) :
    ArgsRel (fun _ => False) w noNames [a0, a1, a2, a3, a4, a5, a6, a7] #[u0, u1, u2, u3, u4, u5, u6, u7] :=
  argsRel_of (vs := [u0, u1, u2, u3, u4, u5, u6, u7]) rfl fun i p q hp hq => by
    match i with
    | 0 => simp at hp hq; subst hp; subst hq; exact h0
    | 1 => simp at hp hq; subst hp; subst hq; exact h1
    | 2 => simp at hp hq; subst hp; subst hq; exact h2
    | 3 => simp at hp hq; subst hp; subst hq; exact h3
    | 4 => simp at hp hq; subst hp; subst hq; exact h4
    | 5 => simp at hp hq; subst hp; subst hq; exact h5
    | 6 => simp at hp hq; subst hp; subst hq; exact h6
    | 7 => simp at hp hq; subst hp; subst hq; exact h7
    | n + 8 => simp at hp
theorem args9 {w : World} {a0 a1 a2 a3 a4 a5 a6 a7 a8 : RV} {u0 u1 u2 u3 u4 u5 u6 u7 u8 : Value} (h0 : RVRel (fun _ => False) w a0 noNames u0) (h1 : RVRel (fun _ => False) w a1 noNames u1) (h2 : RVRel (fun _ => False) w a2 noNames u2) (h3 : RVRel (fun _ => False) w a3 noNames u3) (h4 : RVRel (fun _ => False) w a4 noNames u4) (h5 : RVRel (fun _ => False) w a5 noNames u5) (h6 : RVRel (fun _ => False) w a6 noNames u6) (h7 : RVRel (fun _ => False) w a7 noNames u7) (h8 : RVRel (fun _ => False) w a8 noNames u8) :
    ArgsRel (fun _ => False) w noNames [a0, a1, a2, a3, a4, a5, a6, a7, a8] #[u0, u1, u2, u3, u4, u5, u6, u7, u8] :=
  argsRel_of (vs := [u0, u1, u2, u3, u4, u5, u6, u7, u8]) rfl fun i p q hp hq => by
    match i with
    | 0 => simp at hp hq; subst hp; subst hq; exact h0
    | 1 => simp at hp hq; subst hp; subst hq; exact h1
    | 2 => simp at hp hq; subst hp; subst hq; exact h2
    | 3 => simp at hp hq; subst hp; subst hq; exact h3
    | 4 => simp at hp hq; subst hp; subst hq; exact h4
    | 5 => simp at hp hq; subst hp; subst hq; exact h5
    | 6 => simp at hp hq; subst hp; subst hq; exact h6
    | 7 => simp at hp hq; subst hp; subst hq; exact h7
    | 8 => simp at hp hq; subst hp; subst hq; exact h8
    | n + 9 => simp at hp
end Go.Eng
namespace Go.Eng
open Go
theorem okWide_float {P : Program} {w : World} {r : Reach} {base : Nat} {t : TypeId} {v : Value} {k : FloatKind} (ht : P.underlying t = some (.float k)) (h : Value.okWide P w r base t v) : ∃ n, v = .float k n := by
  unfold Value.okWide at h
  rw [ht] at h
  simp only at h
  unfold Cell.okWide at h
  rw [ht] at h
  cases v <;> simp_all [Cell.ok]
end Go.Eng
namespace Go.Eng
open Go
/-- From w to w' what holds cells or entries lies as it lay, but for what is in F. -/
structure Kept (F : Nat → Prop) (w w' : World) : Prop where
  size : w.heap.size ≤ w'.heap.size
  same : ∀ (x : Nat) (o : Obj), w.heap[x]? = some o → cm o = true → ¬ F x → w'.heap[x]? = some o
theorem Kept.cell {F : Nat → Prop} {w w' : World} (h : Kept F w w') {a : Addr} {v : Value} (hn : ¬ F a.block) (hc : w.cell? a = some v) : w'.cell? a = some v := by
  have h0 := hc
  simp only [World.cell?] at h0
  split at h0
  · rename_i c ty pr hb
    have := h.same a.block _ hb rfl hn
    simp only [World.cell?, this]
    exact h0
  · cases h0
theorem Rel.kept {O F : Nat → Prop} {w w' : World} (hF : ∀ x, F x → O x) (h0 : Kept F w w') : ∀ (c : Cell) (hs : Names) (u : Value), Rel O w c hs u → Rel O w' c hs u
  | .v x, _, _, h => h
  | .ptr j off, _, _, h => h
  | .pro k g, hs, u, h => by
    obtain ⟨b, off, h1, h2, h3, h4⟩ := h
    refine ⟨b, off, h1, h2, Nat.lt_of_lt_of_le h3 h0.size, fun t ht => ?_⟩
    obtain ⟨x, h5, h6⟩ := h4 t ht
    exact ⟨x, h0.cell (fun h => h2 (hF _ h)) h5, Rel.kept hF h0 (g t) _ _ h6⟩
  | .pix j base len i, _, _, h => h
  | .pxs j base len m i, _, _, h => h
  | .pos j k i t, _, _, h => h
  | .ro n k tight g, hs, u, h => by
    obtain ⟨a, cap, h1, h2, h3, h3', h4⟩ := h
    refine ⟨a, cap, h1, h2, h3, h3', fun hn => ?_⟩
    obtain ⟨b, off, h5, h6, h7, h8⟩ := h4 hn
    refine ⟨b, off, h5, h6, Nat.lt_of_lt_of_le h7 h0.size, fun i hi t ht => ?_⟩
    obtain ⟨x, h9, h10⟩ := h8 i hi t ht
    exact ⟨x, h0.cell (fun h => h6 (hF _ h)) h9, Rel.kept hF h0 (g i t) _ _ h10⟩
  | .osl j, _, _, h => h
  | .psl j off n k, _, _, h => h
  | .osv j k a n, _, _, h => h
  | .mp j, _, _, h => h
  | .fn f caps, _, _, h => h
  | .bfn f caps, _, _, h => h
  | .bq, _, _, h => h
  | .any, _, _, h => h
theorem SvRel.kept {O F : Nat → Prop} {w w' : World} (hF : ∀ x, F x → O x) (h0 : Kept F w w') {x : Sv} {hs : Names} {u : Value} (h : SvRel O w x hs u) : SvRel O w' x hs u := by
  cases x with
  | c x => exact Rel.kept hF h0 x _ _ h
  | agg l =>
    obtain ⟨cs, h1, h2, h3⟩ := h
    exact ⟨cs, h1, h2, fun i c v hc hv => Rel.kept hF h0 c _ _ (h3 i c v hc hv)⟩
theorem RVRel.kept {O F : Nat → Prop} {w w' : World} (hF : ∀ x, F x → O x) (h0 : Kept F w w') {x : RV} {hs : Names} {u : Value} (h : RVRel O w x hs u) : RVRel O w' x hs u := by
  cases x with
  | s x => exact SvRel.kept hF h0 h
  | un => exact h
  | any => trivial
  | tup l =>
    obtain ⟨cs, h1, h2, h3⟩ := h
    exact ⟨cs, h1, h2, fun i c v hc hv => SvRel.kept hF h0 (h3 i c v hc hv)⟩
theorem BlkRel.kept {O F : Nat → Prop} {w w' : World} (hF : ∀ x, F x → O x) (h0 : Kept F w w') {hs : Names} {x : Blk} {v : Value} (hx : ∀ b, owner x v = some b → ¬ F b) (h : BlkRel O w hs x v) : BlkRel O w' hs x v := by
  cases x with
  | row ty cells =>
    obtain ⟨x, cs, h1, h2, h3, h4⟩ := h
    subst h1
    exact ⟨x, cs, rfl, h0.same x _ h2 rfl (hx x rfl), h3, fun i c u hc hu => Rel.kept hF h0 c _ _ (h4 i c u hc hu)⟩
  | slc ty k n g =>
    rcases h with h | ⟨x, cap, cs, h1, h2, h2', h3, h4, h5⟩
    · exact .inl h
    · subst h1
      exact .inr ⟨x, cap, cs, rfl, h2, h2', h0.same x _ h3 rfl (hx x rfl), h4, fun i hi t ht u hu => Rel.kept hF h0 _ _ _ (h5 i hi t ht u hu)⟩
  | fsl k n g => exact Rel.kept hF h0 _ _ _ h
  | imap f =>
    obtain ⟨r, es, clk, h1, h2, h3⟩ := h
    subst h1
    exact ⟨r, es, clk, rfl, h0.same r _ h2 rfl (hx r rfl), h3⟩
  | pmap f =>
    obtain ⟨r, es, clk, h1, h2, h3⟩ := h
    subst h1
    exact ⟨r, es, clk, rfl, h0.same r _ h2 rfl (hx r rfl), h3⟩
  | smap f =>
    obtain ⟨r, es, clk, h1, h2, h3⟩ := h
    subst h1
    exact ⟨r, es, clk, rfl, h0.same r _ h2 rfl (hx r rfl), h3⟩
  | gone => trivial
theorem WRep.kept {F : Nat → Prop} {hs : Names} {B : Mem} {w w' : World} (h0 : Kept F w w') (h : WRep F hs B w) : WRep F hs B w' :=
  ⟨fun j x hj => by
    obtain ⟨u, hu, hr⟩ := h.blk j x hj
    exact ⟨u, hu, BlkRel.kept (fun x hx => .inl hx) h0 (fun b hb hF => h.apart b hF ⟨j, x, u, hj, hu, hb⟩) hr⟩, h.sep, fun x hx => Nat.lt_of_lt_of_le (h.lt x hx) h0.size, h.apart⟩
/-- A state, told from its own world on. -/
def Now (F : Nat → Prop) (st : St) (a : Act) (w : World) : Prop := a.defers = [] ∧ ∃ O hs, RepS 0 F O hs w st a w
/-- Behind a round the state holds as before. -/
theorem Now.kept {F : Nat → Prop} {st : St} {a : Act} {w w' : World} (h : Now F st a w) (h0 : Kept F w w') : Now F st a w' := by
  obtain ⟨hd, O, hs0, ⟨hs, hw, hR, hf, _⟩, _⟩ := h
  refine ⟨hd, own hs (look st.blks), hs, ⟨hs, hw.kept h0, fun t rv ht => ?_, hf, ⟨fun _ _ h => h, ⟨rfl, rfl, rfl, Nat.le_refl _, fun _ _ _ => rfl⟩, fun x hx => .inl hx⟩⟩, by rw [hd]; exact DOK.nil _ _⟩
  obtain ⟨u, hu, hr⟩ := hR t rv ht
  exact ⟨u, hu, RVRel.kept (fun x hx => .inl hx) h0 hr⟩
section
variable {F : Fence} {n : Nat} {P : Program}
theorem upon_mono {o : Oper} {a : Act} {next next' : Act → World → Prop} {Q : Exit → Act → World → Prop} (hn : ∀ a w, next a w → next' a w) :
    ∀ r, o.uponIn F n P a next (Exit.then next' Q) r → o.uponIn F n P a next' Q r := by
  intro r h
  cases r with
  | ok x w =>
    cases x <;> simp only [Oper.uponIn] at h ⊢ <;> first | exact hn _ _ h | exact h.elim | skip
    · refine ⟨h.1, h.2.mono fun e w' he => ?_⟩
      cases e
      · exact hn _ _ he
      · exact he
      · exact he
    · refine ⟨h.1, h.2.mono fun e w' he => ?_⟩
      cases e
      · exact hn _ _ he
      · exact he
      · exact he
    · exact ⟨h.1, h.2.mono fun v w' he => hn _ _ he⟩
  | halt x w => cases x <;> first | exact h | exact h.elim
theorem list_change {ops0 ops : Array Oper} {Q : Exit → Act → World → Prop} {rest : List Oper} : ∀ (l : List Oper), (∀ o ∈ l, o.guard = none) → ∀ a w,
    wpListIn F n P ops0 (Exit.then (wpListIn F n P ops Q rest) Q) l a w → wpListIn F n P ops Q (l ++ rest) a w
  | [], _, a, w, h => h
  | o :: l, hg, a, w, h => by
    have ho : o.guard = none := hg o (by simp)
    have h1 : ∀ y, Region.wanted o y = true := fun y => by simp [Region.wanted, ho]
    simp only [List.cons_append, wpListIn, h1, if_true] at h ⊢
    refine ⟨h.1, ?_⟩
    have h2 := h.2
    have key : ∀ (next next' : Act → World → Prop) (Q0 : Exit → Act → World → Prop) (K : Act → World → Prop), (∀ a w, next a w → next' a w) → ∀ r, o.uponIn F n P a next (Exit.then K Q0) r → o.uponIn F n P a next' Q0 r := by
      intro next next' Q0 K hn r hr
      refine upon_mono (next := next) hn r ?_
      cases r with
      | ok x w =>
        cases x <;> exact hr
      | halt x w => cases x <;> exact hr
    exact key _ _ _ _ (fun a w h => list_change l (fun o ho => hg o (by simp [ho])) a w h) _ h2
end
end Go.Eng
namespace Go.Eng
open Go
def RelsL (O : Nat → Prop) (w : World) (hs : Names) : List RV → List Value → Prop
  | [], [] => True
  | r :: l, v :: vs => RVRel O w r hs v ∧ RelsL O w hs l vs
  | _, _ => False
theorem relsL_regs {O : Nat → Prop} {w : World} {hs : Names} : ∀ (l : List RV) (vs : List Value), RelsL O w hs l vs → ∀ (t : Nat) (rv : RV), l[t]? = some rv → ∃ u, vs[t]? = some u ∧ RVRel O w rv hs u
  | [], [], _, t, rv, h => by simp at h
  | r :: l, v :: vs, h, 0, rv, ht => by
    simp at ht; subst ht
    exact ⟨v, rfl, h.1⟩
  | r :: l, v :: vs, h, t + 1, rv, ht => relsL_regs l vs h.2 t rv (by simpa using ht)
  | [], _ :: _, h, _, _, _ => h.elim
  | _ :: _, [], h, _, _, _ => h.elim
section
variable {P : Program} {Γ : FuncId → Option FSpec} {F : Nat → Prop} {O0 : Nat → Prop} {hs0 : Names} {w0 : World} {d : Dfr}
/-- Some of a region's operations, in the order of the text. -/
theorem part_wp (hΓ : GOK P Γ) {Φ : Fence} (hΦ : Free Φ) {n : Nat} {ops : List Oper} {ls : List (Nat × Oper)} (hl : ∀ p ∈ ls, ops[p.1]? = some p.2) (hnd : (ls.map Prod.fst).Nodup) {st : St} {a : Act} {w : World}
    (hr : RepS d F O0 hs0 w0 st a w) {K : St → Prop} (h : runT P Γ ops ls st fun _ st' => K st') {Q : Exit → Act → World → Prop} (hQ : ∀ st' a' w', K st' → a'.defers = a.defers → RepS d F O0 hs0 w0 st' a' w' → Q .normal a' w') :
    wpOpsIn Φ n P ops.toArray Q (ls.map Prod.fst) a w := by
  obtain ⟨tr, st2, h1, h2⟩ := runT_sound hΓ _ hl st _ hr.lt h
  have hidx : tr.map Stp.i = ls.map Prod.fst := tr_idx h2
  rw [← hidx]
  exact text_wp (n := n) hΦ h2 (by rw [hidx]; exact hnd) (Q := Q) (D := a.defers) (fun a' w' hd hr' => hQ _ _ _ h1 hd hr') tr [] rfl (fun _ => false) (fun q hq => by cases hq) (fun _ _ => rfl) a w rfl (inv_start h2 (fun _ _ => rfl) hr)
/-- What is to be shown behind the first operations of a region. -/
structure SeqReady (P : Program) (Γ : FuncId → Option FSpec) (F : Nat → Prop) (O0 : Nat → Prop) (hs0 : Names) (w0 : World) (m : Nat) (ops : List Oper) (rest : Code) (l2 : List Nat) (Fin : St → Prop) (a : Act) (w : World) : Prop where
  ex : ∃ (st : St) (ls : List (Nat × Oper)), a.defers = [] ∧ ls.map Prod.fst = l2 ∧ (∀ p ∈ ls, ops[p.1]? = some p.2) ∧ l2.Nodup ∧ RepS ⟨0, [], true⟩ F O0 hs0 w0 st a w ∧
    runT P Γ ops ls st fun _ st' => W P Γ m [] false rest (fun ex st => match ex with | .normal => Fin st | _ => False) st'
theorem seq_part (hΓ : GOK P Γ) (hmix : P.follows .mixedOrders = true) {m : Nat} (hm : ∀ j, m ≤ j → hs0 j = none) {id : Nat} {ops : List Oper} {rest : Code} {Fin : St → Prop} {Q : Exit → Act → World → Prop} {a : Act} {w : World} (l1 l2 : List Nat) (hrange : List.range ops.length = l1 ++ l2)
    (h1 : ∀ (K : Act → World → Prop) (Q' : Exit → Act → World → Prop), (∀ a' w', SeqReady P Γ F O0 hs0 w0 m ops rest l2 Fin a' w' → K a' w') → wpOpsIn Fence.wide 0 P ops.toArray (fun e a' w' => match e with | .normal => K a' w' | e => Q' e a' w') l1 a w)
    (hQ : ∀ st a' w', Fin st → a'.defers = [] → RepS ⟨0, [], true⟩ F O0 hs0 w0 st a' w' → Q .normal a' w') : (Code.seq (.region id ops.toArray false) rest).wpIn Fence.wide 0 P Q a w := by
  refine wpIn_seq (wpIn_region ?_)
  have hr : List.range ops.toArray.size = l1 ++ l2 := by simpa using hrange
  rw [hr]
  refine wpOpsIn_app _ _ _ _ ?_
  refine h1 _ _ fun a' w' he => ?_
  obtain ⟨st, ls, hd, rfl, hl, hnd, hrep, hrun⟩ := he
  refine part_wp hΓ .wide hl hnd hrep hrun fun st' a2 w2 hW hd2 hrep2 => ?_
  show rest.wpIn _ _ _ _ _ _
  refine wpIn_mono (W_sound hΓ hmix [] rest .wide 0 false (fun e => by cases e) (fun e => by cases e) (Nat.zero_le _) hm _ st' a2 w2 hrep2 hW) fun e a3 w3 he => ?_
  cases e with
  | normal =>
    obtain ⟨st3, h3, h4⟩ := he
    exact hQ st3 a3 w3 h3 (h4.defers.none rfl) h4
  | exit i => obtain ⟨_, h3, _⟩ := he; exact h3.elim
  | ret => obtain ⟨_, h3, _⟩ := he; exact h3.elim
  | goto _ => exact he.elim
  | panic _ => obtain ⟨_, h3, _⟩ := he; exact h3.elim
  | outgrown => exact he.elim
/-- The end, as it is told. -/
theorem post_of_ent {F : Nat → Prop} {hs : Names} {w w' : World} {B : List (Nat × Blk)} {st : St} {a : Act} {m : Nat} {B' : List (Nat × Blk)} (hm : ∀ j, m ≤ j → hs j = none) (hB : m = B.length) (full : ∀ j, j < B.length → ∃ b, look B j = some b)
    (hw0 : WRep F hs (look B) w) (hr : RepS d F (own hs (look B)) hs w st a w') (he : EntK m ⟨[], st.blks, st.next⟩ ⟨[], B', B'.length⟩) :
    Post F hs (look B) w (.tup []) (look B') B.length (max B.length B'.length) (.tuple #[]) w' := by
  obtain ⟨⟨hs1, hw1, hR1, hf1, hS1⟩, hd⟩ := hr
  have hrep1 : RepS 0 F (own hs (look B)) hs w ⟨[], st.blks, st.next⟩ { tmps := #[], defers := [] } w' :=
    ⟨⟨hs1, hw1, (fun t rv' ht => by
      have ht : ([] : List RV)[t]? = some rv' := ht
      simp at ht), hf1, hS1⟩, DOK.nil _ _⟩
  obtain ⟨⟨hs2, hw2, hR2, hf2, hS2⟩, _⟩ := ent_rep hm hrep1 he
  refine ⟨hs2, ⟨#[], rfl, rfl, fun i c u h => by simp at h⟩, hw2, hS2.names, fun j hj => ?_, hS2.fr, hS2.own⟩
  rcases Nat.lt_or_ge j B.length with h' | h'
  · obtain ⟨b, hbj⟩ := full j h'
    obtain ⟨u, hu, _⟩ := hw0.blk j b hbj
    rw [hS2.names j u hu, hu]
  · rw [hm j (by omega)]
    exact hf2 j (show B'.length ≤ j by omega)
end
end Go.Eng
namespace Go.Eng
theorem Qn : (∀ (p : Prop) [Decidable p], (decide p = true) = p) ∧ (∀ (p : Prop) [Decidable p], (decide p = false) = ¬ p) ∧ (∀ (α : Type) [BEq α] [LawfulBEq α] (a b : α), ((a == b) = true) = (a = b)) ∧ (∀ (α : Type) [BEq α] [LawfulBEq α] (a b : α), ((a == b) = false) = ¬ a = b) ∧
    (∀ (α : Type) [BEq α] [LawfulBEq α] (a b : α), ((a != b) = true) = ¬ a = b) ∧ (∀ (α : Type) [BEq α] [LawfulBEq α] (a b : α), ((a != b) = false) = (a = b)) ∧ (∀ b : Bool, ((!b) = true) = (b = false)) ∧ (∀ b : Bool, ((!b) = false) = (b = true)) ∧ (∀ p : Prop, (¬ ¬ p) = p) ∧
    (∀ l r : List Int, (beqL l r = true) = (l = r)) ∧ (∀ l r : List Int, (beqL l r = false) = ¬ l = r) ∧ (∀ (α : Type) (a : α) (l : List α) (b : α) (r : List α), (a :: l = b :: r) = (a = b ∧ l = r)) ∧ (∀ p : Prop, (p ∧ True) = p) ∧ ((!true) = false) ∧ ((!false) = true) ∧ (∀ (α : Type) (a b : α), (a ≠ b) = ¬ a = b) :=
  ⟨fun _ _ => decide_eq_true_eq, fun _ _ => propext decide_eq_false_iff_not, fun _ _ _ _ _ => propext beq_iff_eq, fun _ _ _ _ _ => propext beq_eq_false_iff_ne, fun _ _ _ _ _ => propext bne_iff_ne, fun _ _ _ _ _ => propext bne_eq_false_iff_eq,
    fun b => Bool.not_eq_true' b, fun b => Bool.not_eq_false' b, fun _ => propext Classical.not_not, fun l r => propext (beqL_iff l r), fun l r => propext (beqL_ff l r), fun _ a l b r => List.cons.injEq a l b r, fun p => and_true p, rfl, rfl, fun _ _ _ => rfl⟩
theorem Qm0 : (∀ n : Nat, ((n : Int)).toNat = n) ∧ (Int.toNat 0 = 0) := ⟨Int.toNat_natCast, rfl⟩
theorem QA {ops : List Oper} {sg : List Sig} (ok : anyB ops sg = true := by kernel_rfl) : AnyP ops sg := ⟨ok⟩
theorem QP {ops : List Oper} {sg : List Sig} {o : Oper} (ok : panyB ops sg o = true := by kernel_rfl) : PanyP ops sg o := ⟨ok⟩
theorem QG {P : Program} {t : TypeId} {n : Nat} {k : Nat → Prop} (hk : k n) (ok : aggOk P t n = true := by kernel_rfl) : AggP P t n k := AggP.go n rfl ok hk
theorem Y1 {a : List (Nat × Blk)} {b : List Nat} {c d : RV} (h : rvEq a b c d) : rvEq a b c d := h
theorem Y2 {a : List (Nat × Blk)} {b : List Nat} {c d : Sv} (h : svEq a b c d) : svEq a b c d := h
theorem Y3 {a : List (Nat × Blk)} {b : List Nat} {c d : Cell} (h : cellEq a b c d) : cellEq a b c d := h
theorem Qa {t : Bool} {A B : Prop} (h1 : t = true → A) (h2 : t = false → B) : Bool.rec (motive := fun _ => Prop) B A t := br_rec h1 h2
theorem Qb {m : Nat} {p : List Bind → List Nat → Prop} (h : p [] (uptoN m [])) : EntP m m p := EntP.k0 h
theorem Qc {m s0 : Nat} {p : List Bind → List Nat → Prop} (h : p [] (uptoN m [s0])) : EntP m (m + 1) p := EntP.k1 h
theorem Qd {m s0 s1 : Nat} {p : List Bind → List Nat → Prop} (h : p [] (uptoN m [s0, s1])) : EntP m (m + 2) p := EntP.k2 h
theorem Qe {m s0 s1 s2 : Nat} {p : List Bind → List Nat → Prop} (h : p [] (uptoN m [s0, s1, s2])) : EntP m (m + 3) p := EntP.k3 h
theorem Qf {m s0 s1 s2 s3 : Nat} {p : List Bind → List Nat → Prop} (h : p [] (uptoN m [s0, s1, s2, s3])) : EntP m (m + 4) p := EntP.k4 h
theorem Qg {m s0 s1 s2 s3 s4 : Nat} {p : List Bind → List Nat → Prop} (h : p [] (uptoN m [s0, s1, s2, s3, s4])) : EntP m (m + 5) p := EntP.k5 h
theorem Qh {m s0 s1 s2 s3 s4 s5 : Nat} {p : List Bind → List Nat → Prop} (h : p [] (uptoN m [s0, s1, s2, s3, s4, s5])) : EntP m (m + 6) p := EntP.k6 h
theorem Qi {n : Nat} {p : List Nat → Prop} (h : p (uptoN n [])) : DrawP n p := DrawP.go h
theorem Qj {A : Type} {p : OwnG 0 A → List Nat → Prop} (h : CutE A fun a => p ⟨a⟩ []) : CallP (OwnG 0 A) p := CallP.own0 h
theorem Qk {A : Type} {p : OwnG 1 A → List Nat → Prop} {s0 : Nat} (h : CutE A fun a => p ⟨a⟩ [s0]) : CallP (OwnG 1 A) p := CallP.own1 h
theorem Ql {A : Type} {p : OwnG 2 A → List Nat → Prop} {s0 s1 : Nat} (h : CutE A fun a => p ⟨a⟩ [s0, s1]) : CallP (OwnG 2 A) p := CallP.own2 h
theorem Qm {A : Type} {p : OwnG 3 A → List Nat → Prop} {s0 s1 s2 : Nat} (h : CutE A fun a => p ⟨a⟩ [s0, s1, s2]) : CallP (OwnG 3 A) p := CallP.own3 h
theorem Qo {G : Type} {p : G → List Nat → Prop} (h : CutE G fun g => p g []) : CallP G p := CallP.nb h
theorem Qp {p : Unit → Prop} (h : p ()) : CutE Unit p := CutE.go0 h
theorem Qq {A : Type} {p : A → Prop} {a : A} (h : p a) : CutE A p := CutE.go1 h
theorem Qr {A B : Type} {p : A × B → Prop} {a : A} {b : B} (h : p (a, b)) : CutE (A × B) p := CutE.go2 h
theorem Qs {A B C : Type} {p : A × B × C → Prop} {a : A} {b : B} {c : C} (h : p (a, b, c)) : CutE (A × B × C) p := CutE.go3 h
theorem Qt {A B C D : Type} {p : A × B × C × D → Prop} {a : A} {b : B} {c : C} {d : D} (h : p (a, b, c, d)) : CutE (A × B × C × D) p := CutE.go4 h
theorem Qu {A B C D E : Type} {p : A × B × C × D × E → Prop} {a : A} {b : B} {c : C} {d : D} {e : E} (h : p (a, b, c, d, e)) : CutE (A × B × C × D × E) p := CutE.go5 h
theorem Qv {A B C D E F : Type} {p : A × B × C × D × E × F → Prop} {a : A} {b : B} {c : C} {d : D} {e : E} {f : F} (h : p (a, b, c, d, e, f)) : CutE (A × B × C × D × E × F) p := CutE.go6 h
theorem Qw {A B C D E F H : Type} {p : A × B × C × D × E × F × H → Prop} {a : A} {b : B} {c : C} {d : D} {e : E} {f : F} {g : H} (h : p (a, b, c, d, e, f, g)) : CutE (A × B × C × D × E × F × H) p := CutE.go7 h
theorem Qx {n q : Nat} {tt : Bool} {g : Nat → Nat → Cell} {k : List Cell → Prop} (h : k [.ro n q tt g]) : RoP n q tt g k := RoP.id h
theorem Qy {A B : Prop} (h : A) : RegP A B := RegP.go h
end Go.Eng
