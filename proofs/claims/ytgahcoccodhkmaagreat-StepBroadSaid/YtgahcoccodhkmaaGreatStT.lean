/- A part of the walks, and of the machine that proves them (StT). -/
import Derived.Test.YtgahcoccodhkmaaGreatStR
import Derived.Test.YtgahcoccodhkmaaGreatEngC
import Derived.TacticsInMore
import Derived.Test.YtgahcoccodhkmaaGreatStRb
set_option linter.unusedVariables false
set_option linter.unusedSimpArgs false
namespace Go.Eng
open Go Go.Proofs Go.RowKit
set_option maxRecDepth 100000 in
theorem catch_idle (p q : Value) (w : World) :
    CallsDIn Fence.wide 0 Tryz.prog 70 #[p, q] .returning w fun e u' w' => e = .returned (.tuple #[]) ∧ u' = .returning ∧ w' = w := by
  refine callsDIn_of_wpSIn Tryz.func70 rfl trivial fun c₀ cs hu => ?_
  apply wpSIn_seq
  apply wpSIn_region
  simp [wpOpsSIn, go_sem, recoverD, hu, Tryz.ntmps70, Exit.thenS]
  apply wpSIn_seq
  apply wpSIn_region
  simp [wpOpsSIn, go_sem, recoverD, hu, Exit.thenS]
  refine wpSIn_cond (t := false) (by simp [Act.eval, Array.replicate]) ?_
  simp only [Bool.false_eq_true, if_false]
  refine wpSIn_of_wpIn rfl (wpIn_skip ?_)
  cases c₀
  simp_all [bodyPostS, results]
def regsC (jw jb : Nat) (e : Int) : List RV := [.c (.ptr jw 0), .c (.ptr jb 0), .any, .any, .any, .any, .any, .any, .any, .any, .any, .agg [.i e], .b true, .any, .any, .any, .any, .any, .any, .any, .any, .any, .any, .any, .any, .any, .any, .any, .any, .any, .any]
/-- What is walked of the deferred function, where somebody has panicked. -/
def catchW (Γ : FuncId → Option FSpec) (m : Nat) (bs : List (Nat × Blk)) (nx jw jb : Nat) (e : Int) (Fin : St → Prop) : Prop :=
  match Tryz.f70.body with
  | some (.seq _ (.seq _ (.cond _ (.seq (.region _ ops _) rest) _))) => nthK ops.toList 5 fun o5 => nthK ops.toList 6 fun o6 => nthK ops.toList 7 fun o7 => runT Tryz.prog Γ ops.toList [(5, o5), (6, o6), (7, o7)] ⟨regsC jw jb e, bs, nx⟩ fun _ st =>
    W Tryz.prog Γ m [] false rest (fun ex st => match ex with | .normal => Fin st | _ => False) st
  | _ => False
theorem three {ops : List Oper} {K : Oper → Oper → Oper → Prop} (h : nthK ops 5 fun o5 => nthK ops 6 fun o6 => nthK ops 7 fun o7 => K o5 o6 o7) : ∃ o5 o6 o7, K o5 o6 o7 ∧ ∀ p ∈ [(5, o5), (6, o6), (7, o7)], ops[p.1]? = some p.2 := by
  obtain ⟨o5, h5, h⟩ := nthK_spec _ _ _ h
  obtain ⟨o6, h6, h⟩ := nthK_spec _ _ _ h
  obtain ⟨o7, h7, h⟩ := nthK_spec _ _ _ h
  refine ⟨o5, o6, o7, h, fun p hp => ?_⟩
  simp only [List.mem_cons, List.not_mem_nil, or_false] at hp
  rcases hp with rfl | rfl | rfl
  · exact h5
  · exact h6
  · exact h7
set_option maxRecDepth 100000 in
theorem run_assert (e : Int) (w : World) : (Instr.typeAssert (.iface 111 (.agg #[.int .i64 e])) 20 111 true).run Tryz.prog w = .ok (.tuple #[.agg #[.int .i64 e], .bool true]) w := by
  rfl
set_option maxRecDepth 100000 in
set_option maxHeartbeats 1000000 in
theorem catch_bad {Γ : FuncId → Option FSpec} (hΓ : GOK Tryz.prog Γ) {F : Nat → Prop} {O0 : Nat → Prop} {hs0 : Names} {w0 : World} {m : Nat} (hm : ∀ j, m ≤ j → hs0 j = none) {e : Int} {w : World} {p q : Value} {bs : List (Nat × Blk)} {nx jw jb : Nat} {Fin : St → Prop}
    (hr : RepS ⟨0, [], true⟩ F O0 hs0 w0 ⟨[.c (.ptr jw 0), .c (.ptr jb 0)], bs, nx⟩ { tmps := #[p, q], defers := [] } w) (hW : catchW Γ m bs nx jw jb e Fin) :
    CallsDIn Fence.wide 0 Tryz.prog 70 #[p, q] (.panicking (chF e)) w fun r u' w' => r = .returned (.tuple #[]) ∧ u' = .panicking [{ v := vFault e, recovered := true }] ∧
      ∃ st a, Fin st ∧ RepS ⟨0, [], true⟩ F O0 hs0 w0 st a w' := by
  refine callsDIn_of_wpSIn Tryz.func70 rfl trivial fun c₀ cs hu => ?_
  apply wpSIn_seq
  apply wpSIn_region
  simp [wpOpsSIn, go_sem, recoverD, hu, Tryz.ntmps70, Exit.thenS, chF, Array.replicate_succ, Array.replicate_zero, List.push_toArray, List.append_toArray, List.nil_append, List.cons_append, List.setIfInBounds_toArray, List.set_cons_zero, List.set_cons_succ]
  apply wpSIn_seq
  apply wpSIn_region
  simp [wpOpsSIn, go_sem, recoverD, Exit.thenS, vFault, Array.replicate_succ, Array.replicate_zero, List.push_toArray, List.append_toArray, List.nil_append, List.cons_append, List.setIfInBounds_toArray, List.set_cons_zero, List.set_cons_succ]
  refine wpSIn_cond (t := true) (by simp [Act.eval, Array.replicate]) ?_
  simp only [if_true]
  refine wpSIn_of_wpIn rfl (seq_part (F := F) (O0 := O0) (w0 := w0) (Fin := Fin) hΓ rfl hm [0, 1, 2, 3, 4] [5, 6, 7] rfl (fun K Q' hK => ?_) fun st a' w' hF hd hrep => ?_)
  · simp [wpOpsIn, go_sem, run_assert, Array.replicate_succ, Array.replicate_zero, List.push_toArray, List.append_toArray, List.nil_append, List.cons_append, List.setIfInBounds_toArray, List.set_cons_zero, List.set_cons_succ]
    obtain ⟨o5, o6, o7, hrun, hl⟩ := three hW
    refine hK _ _ ⟨⟨⟨regsC jw jb e, bs, nx⟩, [(5, o5), (6, o6), (7, o7)], rfl, rfl, hl, by decide, ?_, hrun⟩⟩
    obtain ⟨⟨hs, hw, hR, hf, hS⟩, hd⟩ := hr
    obtain ⟨p', hp', hp⟩ := hR 0 _ rfl
    obtain ⟨q', hq', hq⟩ := hR 1 _ rfl
    have hp' : p = p' := by simpa using hp'
    have hq' : q = q' := by simpa using hq'
    subst hp' hq'
    have hL := relsL_regs (O := Osum F hs (look bs)) (w := w) (hs := hs) (regsC jw jb e) [p, q, Value.iface 111 (Value.agg #[Value.int IntKind.i64 e]), undef, undef, Value.iface 111 (Value.agg #[Value.int IntKind.i64 e]), Value.iface 111 (Value.agg #[Value.int IntKind.i64 e]), Value.bool true, Value.tuple #[Value.agg #[Value.int IntKind.i64 e], Value.bool true], Value.iface 111 (Value.agg #[Value.int IntKind.i64 e]), Value.tuple #[Value.agg #[Value.int IntKind.i64 e], Value.bool true], Value.agg #[Value.int IntKind.i64 e], Value.bool true, undef, undef, undef, undef, undef, undef, undef, undef, undef, undef, undef, undef, undef, undef, undef, undef, undef, undef]
      ⟨hp, hq, trivial, trivial, trivial, trivial, trivial, trivial, trivial, trivial, trivial, ⟨#[.int .i64 e], rfl, rfl, fun i c u hc hu => by
        cases i with
        | zero => simp at hc hu; subst hc; subst hu; exact ⟨rfl, rfl⟩
        | succ i => simp at hc⟩, ⟨rfl, rfl⟩, trivial, trivial, trivial, trivial, trivial, trivial, trivial, trivial, trivial, trivial, trivial, trivial, trivial, trivial, trivial, trivial, trivial, trivial, trivial⟩
    refine ⟨⟨hs, hw, fun t rv ht => ?_, hf, hS⟩, DOK.tail _ _⟩
    obtain ⟨u, hu, hru⟩ := hL t rv ht
    exact ⟨u, by rw [← hu, ← List.getElem?_toArray], hru⟩
  · exact ⟨hd, _, rfl, .tuple #[], results_none rfl _ _ _, rfl, rfl, st, hF, a', hrep⟩
end Go.Eng
namespace Go.Eng
open Go Go.Proofs Go.RowKit
/-- What is walked of try before it does anything. -/
def tryW1 (Γ : FuncId → Option FSpec) (n : Nat) (args : List RV) (blks : List (Nat × Blk)) (S3 : St) : Prop :=
  match Tryz.f33.body with
  | some (.seq r0 (.seq r1 (.seq (.region _ ops _) _))) => padK args 13 fun regs => W Tryz.prog Γ n [] false r0 (fun e st => match e with
    | .normal => W Tryz.prog Γ n [] false r1 (fun e st => match e with
      | .normal => nthK ops.toList 0 fun o => runT Tryz.prog Γ ops.toList [(0, o)] st fun _ st => EntK n st S3
      | _ => False) st
    | _ => False) ⟨regs, blks, n⟩
  | _ => False
def tryOkW (Γ : FuncId → Option FSpec) (m : Nat) (S3 : St) (Fin : St → Prop) : Prop :=
  match Tryz.f33.body with
  | some (.seq _ (.seq _ (.seq _ r))) => W Tryz.prog Γ m [] false r (fun e st => match e with
    | .normal => Fin st
    | _ => False) S3
  | _ => False
def tryBadW (Γ : FuncId → Option FSpec) (S3 : St) (K : List PanicEntry → List (Nat × Blk) → Nat → Prop) : Prop :=
  match Tryz.f33.body with
  | some (.seq _ (.seq _ (.seq _ (.seq (.region _ ops _) _)))) => runT Tryz.prog Γ ops.toList (enumK 0 (initL ops.toList)) S3 fun _ st' => lastK ops.toList fun o => panOpK Γ o st'.regs st'.blks st'.next K
  | _ => False
def regs3 (fv : RV) (jw jb : Nat) : List RV := [.any, fv, .c (.ptr jb 0), .any, .any, .any, .any, .any, .c (.fn 70 [.ptr jw 0, .ptr jb 0]), .any, .any, .any, .any]
/-- What try owes: at its start, and behind what it has done. -/
structure TryP (Γ : FuncId → Option FSpec) (n : Nat) (fv : RV) (blks : List (Nat × Blk)) (post : List (Nat × Blk)) : Prop where
  ex : ∃ (B3 : List (Nat × Blk)) (nx3 jw jb : Nat), jw < nx3 ∧ jb < nx3 ∧ tryW1 Γ n [.c (.ptr 0 0), fv] blks ⟨regs3 fv jw jb, B3, nx3⟩ ∧
    (tryOkW Γ nx3 ⟨regs3 fv jw jb, B3, nx3⟩ (fun st => EntK n ⟨[], st.blks, st.next⟩ ⟨[], post, post.length⟩) ∨
      ∃ e, tryBadW Γ ⟨regs3 fv jw jb, B3, nx3⟩ fun ch bs' nx' => ch = chF e ∧ catchW Γ nx3 bs' nx' jw jb e fun st => EntK n ⟨[], st.blks, st.next⟩ ⟨[], post, post.length⟩)
theorem nth0 {ops : List Oper} {K : Oper → Prop} (h : nthK ops 0 K) : ∃ o, K o ∧ ∀ p ∈ [(0, o)], ops[p.1]? = some p.2 := by
  obtain ⟨o, ho, h⟩ := nthK_spec _ _ _ h
  refine ⟨o, h, fun p hp => ?_⟩
  simp only [List.mem_cons, List.not_mem_nil, or_false] at hp
  subst hp
  exact ho
set_option maxRecDepth 100000 in
set_option maxHeartbeats 1000000 in
theorem try_calls {Γ : FuncId → Option FSpec} (hΓ : GOK Tryz.prog Γ) {fv : RV} {blks post : List (Nat × Blk)} (h : TryP Γ blks.length fv blks post) (full : ∀ j, j < blks.length → ∃ b, look blks j = some b)
    {F : Nat → Prop} {hs : Names} {w : World} {vals : Array Value} (hf0 : ∀ j, blks.length ≤ j → hs j = none) (ha : ArgsRel (Osum F hs (look blks)) w hs [.c (.ptr 0 0), fv] vals) (hw : WRep F hs (look blks) w) :
    Calls Tryz.prog 33 vals w fun e w' => ∃ v, EndsAs none e v ∧ Post F hs (look blks) w (.tup []) (look post) blks.length (max blks.length post.length) v w' := by
  obtain ⟨⟨B3, nx3, jw, jb, hjw, hjb, hW1, hrest⟩⟩ := h
  refine callsIn_wide.1 (callsIn_of_wp_defers (n := 0) Tryz.func33 rfl trivial ?_)
  obtain ⟨_, hW1⟩ := padK_spec _ _ _ hW1
  have hst : RepS ⟨0, [], true⟩ F (own hs (look blks)) hs w ⟨[.c (.ptr 0 0), fv] ++ List.replicate (13 - 2) .un, blks, blks.length⟩ { tmps := vals ++ Array.replicate (13 - vals.size) undef, defers := [] } w := by
    refine ⟨⟨hs, hw, fun t rv ht => ?_, hf0, ⟨fun _ _ h => h, Fr.refl _ _, fun x hx => .inl hx⟩⟩, DOK.tail _ _⟩
    obtain ⟨hsz, hv⟩ := ha
    have hsz : vals.size = 2 := hsz
    have ht : ([.c (.ptr 0 0), fv] ++ List.replicate (13 - 2) RV.un)[t]? = some rv := ht
    by_cases hlt : t < 2
    · rw [List.getElem?_append_left (by simpa using hlt)] at ht
      exact ⟨vals[t], by simp [Array.getElem?_append_left (show t < vals.size by omega), Array.getElem?_eq_getElem (show t < vals.size by omega)], hv t rv _ ht (Array.getElem?_eq_getElem (by omega))⟩
    · rw [List.getElem?_append_right (by simpa using (show 2 ≤ t by omega)), List.getElem?_replicate] at ht
      split at ht
      · cases ht
        refine ⟨undef, ?_, rfl⟩
        show (vals ++ Array.replicate (13 - vals.size) undef)[t]? = some undef
        rename_i hlt2
        have hlt2 : t - 2 < 13 - 2 := hlt2
        rw [Array.getElem?_append_right (by omega), Array.getElem?_replicate, if_pos (by omega)]
      · cases ht
  refine wpIn_seq (wpIn_mono (W_sound hΓ rfl [] _ .wide 0 false (fun e => by cases e) (fun e => by cases e) (Nat.zero_le _) hf0 _ _ _ w hst hW1) fun e a1 w1 he => ?_)
  cases e with
  | exit i => obtain ⟨_, h3, _⟩ := he; exact h3.elim
  | ret => obtain ⟨_, h3, _⟩ := he; exact h3.elim
  | goto _ => exact he.elim
  | panic _ => obtain ⟨_, h3, _⟩ := he; exact h3.elim
  | outgrown => exact he.elim
  | normal =>
  obtain ⟨st1, hW2, hr1⟩ := he
  refine wpIn_seq (wpIn_mono (W_sound hΓ rfl [] _ .wide 0 false (fun e => by cases e) (fun e => by cases e) (Nat.zero_le _) hf0 _ _ _ w1 hr1 hW2) fun e a2 w2 he => ?_)
  cases e with
  | exit i => obtain ⟨_, h3, _⟩ := he; exact h3.elim
  | ret => obtain ⟨_, h3, _⟩ := he; exact h3.elim
  | goto _ => exact he.elim
  | panic _ => obtain ⟨_, h3, _⟩ := he; exact h3.elim
  | outgrown => exact he.elim
  | normal =>
  obtain ⟨st2, hW3, hr2⟩ := he
  obtain ⟨o, hrun, hl⟩ := nth0 hW3
  refine wpIn_seq (wpIn_region ?_)
  refine wpOpsIn_app [1] [0] _ _ ?_
  refine part_wp hΓ .wide hl (by simp) hr2 hrun fun st3 a3 w3 hent hd3 hr3 => ?_
  have hd3 : a3.defers = [] := hd3.trans (hr2.defers.none rfl)
  have hrep3 := ent_rep hf0 hr3 hent
  obtain ⟨⟨hs3, hw3, hR3, hf3, hS3⟩, _⟩ := hrep3
  obtain ⟨t8, ht8, arr, e1, e2, e3⟩ := hR3 8 _ rfl
  obtain ⟨p, q, rfl⟩ : ∃ p q, arr = #[p, q] := by
    have e2 : arr.size = 2 := e2
    refine ⟨arr[0], arr[1], Array.ext (by simpa using e2) fun i h1 h2 => ?_⟩
    have h2 : i < 2 := h2
    match i, h2 with
    | 0, _ => rfl
    | 1, _ => rfl
  have hp := e3 0 _ p rfl rfl
  have hq := e3 1 _ q rfl rfl
  subst e1
  have hev : a3.eval (.tmp 8) = .func (.func 70) #[] #[p, q] := by simp [Act.eval, ht8]
  show wpOpsIn _ _ _ _ _ [1] a3 w3
  simp [wpOpsIn, go_sem, ht8, hd3]
  have hrep3 : RepS ⟨0, [{ target := .fn (.func 70) #[p, q], args := #[] }], true⟩ F (own hs3 (look B3)) hs3 w3 ⟨regs3 fv jw jb, B3, nx3⟩ { a3 with defers := [{ target := .fn (.func 70) #[p, q], args := #[] }] } w3 :=
    ⟨⟨hs3, hw3, hR3, hf3, ⟨fun _ _ h => h, Fr.refl _ _, fun x hx => .inl hx⟩⟩, DOK.tail _ _⟩
  have hinv : (invoke (.fn (.func 70) #[p, q]) #[]).run Tryz.prog = fun W => .ok (.enter 70 #[p, q]) W := by
    funext W
    rfl
  have hfin : ∀ d st a' w' tm, EntK blks.length ⟨[], st.blks, st.next⟩ ⟨[], post, post.length⟩ → RepS d F (own hs3 (look B3)) hs3 w3 st a' w' →
      LeavesIn Fence.wide 0 Tryz.prog Tryz.f33 tm (fun e w' => ∃ v, EndsAs none e v ∧ Post F hs (look blks) w (.tup []) (look post) blks.length (max blks.length post.length) v w') [] .returning w' := fun d st a' w' tm hent hrep =>
    ⟨.tuple #[], results_none rfl _ _ _, _, rfl, post_of_ent hf0 rfl full hw (rep_base hS3 hrep) hent⟩
  rcases hrest with hok | ⟨e, hbad⟩
  · refine wpIn_mono (W_sound hΓ rfl [] _ .wide 0 false (fun e => by cases e) (fun e => by cases e) (Nat.zero_le _) hf3 _ _ _ w3 hrep3 hok) fun e a4 w4 he => ?_
    cases e with
    | exit i => obtain ⟨_, h3, _⟩ := he; exact h3.elim
    | ret => obtain ⟨_, h3, _⟩ := he; exact h3.elim
    | goto _ => exact he.elim
    | panic _ => obtain ⟨_, h3, _⟩ := he; exact h3.elim
    | outgrown => exact he.elim
    | normal =>
    obtain ⟨st4, hent, hr4⟩ := he
    have hd4 := hr4.defers.none rfl
    show LeavesIn _ _ _ _ _ _ a4.defers .returning w4
    rw [hd4]
    refine leavesIn_cons (f := 70) (args := #[p, q]) (by simp) (by simp [Fence.wide]) (by rw [hinv]) (fun _ _ => trivial) ?_
    refine (catch_idle p q w4).mono ?_
    rintro e u' w5 ⟨rfl, rfl, rfl⟩
    exact hfin _ st4 a4 w5 _ hent hr4
  · have hpan := region_pan (n := 0) hΓ .wide hrep3 (Q := fun ex st => match ex with
      | .panic ch => ch = chF e ∧ catchW Γ nx3 st.blks st.next jw jb e fun st => EntK blks.length ⟨[], st.blks, st.next⟩ ⟨[], post, post.length⟩
      | _ => False) hbad
    refine wpIn_seq (wpIn_mono (wpIn_region hpan) fun ex a4 w4 he => ?_)
    cases ex with
    | normal => obtain ⟨_, h3, _⟩ := he; exact h3.elim
    | exit i => obtain ⟨_, h3, _⟩ := he; exact h3.elim
    | ret => obtain ⟨_, h3, _⟩ := he; exact h3.elim
    | goto _ => exact he.elim
    | outgrown => exact he.elim
    | panic ch =>
    obtain ⟨st4, ⟨rfl, hcw⟩, hr4⟩ := he
    have hd4 := hr4.defers.none rfl
    show LeavesIn _ _ _ _ _ _ a4.defers (.panicking (chF e)) w4
    rw [hd4]
    refine leavesIn_cons (f := 70) (args := #[p, q]) (by simp) (by simp [Fence.wide]) (by rw [hinv]) (fun _ _ => trivial) ?_
    have hrc : RepS ⟨0, [], true⟩ F (own hs3 (look B3)) hs3 w3 ⟨[.c (.ptr jw 0), .c (.ptr jb 0)], st4.blks, st4.next⟩ { tmps := #[p, q], defers := [] } w4 := by
      obtain ⟨⟨hs4, hw4, hR4, hf4, hS4⟩, _⟩ := hr4
      refine ⟨⟨hs4, hw4, fun t rv ht => ?_, hf4, hS4⟩, DOK.tail _ _⟩
      have hL := relsL_regs (O := Osum F hs4 (look st4.blks)) (w := w4) (hs := hs4) [.c (.ptr jw 0), .c (.ptr jb 0)] [p, q]
        ⟨by obtain ⟨b, h1, h2⟩ := hp; exact ⟨b, hS4.names _ _ h1, h2⟩, by obtain ⟨b, h1, h2⟩ := hq; exact ⟨b, hS4.names _ _ h1, h2⟩, trivial⟩
      obtain ⟨u, hu, hru⟩ := hL t rv ht
      exact ⟨u, by rw [← hu, ← List.getElem?_toArray], hru⟩
    refine (catch_bad hΓ hf3 hrc hcw).mono ?_
    rintro r u' w5 ⟨rfl, rfl, st5, a5, hent, hr5⟩
    exact hfin _ st5 a5 w5 _ hent hr5
end Go.Eng
namespace Go.Eng
open Go Go.Proofs Go.RowKit
theorem meets_try {Γ : FuncId → Option FSpec} (hΓ : GOK Tryz.prog Γ) {n : Nat} {G : Type} {fv : G → RV} {blks post : G → List Blk} {pre : G → Prop} (h1 : ∀ g, (blks g).length = n) (h2 : ∀ g, (post g).length = n)
    (h : ∀ g, pre g → TryP Γ n (fv g) (numB 0 (blks g)) (numB 0 (post g))) : Meets Tryz.prog 33 (lentSpec n G (fun g => [.c (.ptr 0 0), fv g]) blks pre (fun _ => .tup []) post) where
  pn := fun ⟨g⟩ j b hj => by
    have hj : look (numB 0 (blks g)) j = some b := hj
    rw [look_numB, if_pos (Nat.zero_le _)] at hj
    show j < (numB 0 (blks g)).length
    rw [numB_length]
    exact (List.getElem?_eq_some_iff.1 hj).1
  qn := fun ⟨g⟩ j b hj => by
    have hj : look (numB 0 (post g)) j = some b := hj
    rw [look_numB, if_pos (Nat.zero_le _)] at hj
    show j < (numB 0 (post g)).length
    rw [numB_length]
    exact (List.getElem?_eq_some_iff.1 hj).1
  full := fun ⟨g⟩ j hj => by
    have hj : j < (numB 0 (blks g)).length := hj
    rw [numB_length] at hj
    show ∃ b, look (numB 0 (blks g)) j = some b
    rw [look_numB, if_pos (Nat.zero_le _)]
    exact ⟨_, List.getElem?_eq_getElem (by simpa using hj)⟩
  kp := fun ⟨g⟩ j b hj => by
    have hj : look (numB 0 (blks g)) j = some b := hj
    rw [look_numB, if_pos (Nat.zero_le _)] at hj
    have hlt := (List.getElem?_eq_some_iff.1 hj).1
    show ∃ b, look (numB 0 (post g)) j = some b
    rw [look_numB, if_pos (Nat.zero_le _)]
    exact ⟨_, List.getElem?_eq_getElem (by have := h1 g; have := h2 g; omega)⟩
  body := ⟨_, Tryz.func33, rfl, rfl⟩
  iter := fun γ n item h => by cases h
  run := fun ⟨g⟩ _ hp F hs w vals hf0 ha hw => by
    have hn : (numB 0 (blks g)).length = n := by rw [numB_length]; exact h1 g
    have hT := h g hp
    rw [← hn] at hT
    refine try_calls hΓ hT (fun j hj => ?_) hf0 ha hw
    rw [numB_length] at hj
    rw [look_numB, if_pos (Nat.zero_le _)]
    exact ⟨_, List.getElem?_eq_getElem (by simpa using hj)⟩
def sDo : FSpec := sDoOk.or sDoBad
theorem do_ok : Meets Tryz.prog 34 sDo := meets_or doOk_ok doBad_ok
def V1 : List (Nat × FSpec) := [(34, sDo), (71, sWPut)]
theorem V1_ok : GOK Tryz.prog (tab V1) := gok_cons do_ok (gok_cons wput_ok (gok_nil _))
abbrev wasB (w : Wd) (i : Int) (t : Th) (x : Ins) : List (Nat × Blk) := [(0, .row 77 (wxC w i t x)), (1, .row 72 [.ptr 0 0]), (2, .row 77 (wxC w i t x))]
structure TryPre (w : Wd) (i : Int) (t : Th) (x : Ins) : Prop where
  d : DoPre w t x
  i : 0 ≤ i ∧ i < w.th.length
  n : w.th.length ≤ 1000000
def sTryOk : FSpec := lentSpec 1 Wk8 (fun _ => [.c (.ptr 0 0), .c (.bfn 34 [.ptr 0 0])]) (fun (w, i, t, x) => wxB w i t x) (fun (w, i, t, x) => TryPre w i t x ∧ (workX w i t x).2 = 0 ∧ (workX w i t x).1.1.th = w.th) (fun _ => .tup [])
  fun (w, i, t, x) => wxB (putW (workX w i t x).1.1 i (workX w i t x).1.2) i (workX w i t x).1.2 x
def sTryBad : FSpec := lentSpec 1 Wk8 (fun _ => [.c (.ptr 0 0), .c (.bfn 34 [.ptr 0 0])]) (fun (w, i, t, x) => wxB w i t x) (fun (w, i, t, x) => TryPre w i t x ∧ ¬ (workX w i t x).2 = 0) (fun _ => .tup [])
  fun (w, i, t, x) => wxB (putW w i (faultT t (workX w i t x).2)) i (faultT t (workX w i t x).2) x
set_option maxHeartbeats 2000000 in
set_option maxRecDepth 100000 in
theorem tryStart {Γ : FuncId → Option FSpec} (w : Wd) (i : Int) (t : Th) (x : Ins) : tryW1 Γ 1 [.c (.ptr 0 0), .c (.bfn 34 [.ptr 0 0])] (numB 0 (wxB w i t x)) ⟨regs3 (.c (.bfn 34 [.ptr 0 0])) 2 1, wasB w i t x, 3⟩ := by
  repeat' (first | exact @id (emp _ = true) | (intro h; first | exact Bool.noConfusion h | (simp only [Qn] at h) | skip) | ((conv => whnf) <;> (first | exact trivial | apply Qa | apply And.intro | apply EntP.id 3 | apply Qb | apply Qc | apply Qd | apply Qe | apply Qf | apply Qg | apply Qh | apply Qi | exact QA | exact QP | refine QG ?_ | apply Qj | apply Qk | apply Ql | apply Qm | apply Qo | apply Qp | apply Qw | apply Qv | apply Qu | apply Qt | apply Qs | apply Qr | apply Qq | apply Qx | apply wrapS | apply Qy | (with_reducible exact lenNil) | apply Eq.refl)) | ((with_reducible first | apply Y1 | apply Y2 | apply Y3 | show blkEq _ _ _); conv => whnf))
  all_goals trace_state
set_option maxHeartbeats 2000000 in
set_option maxRecDepth 100000 in
theorem tryOk_ok : Meets Tryz.prog 33 sTryOk := by
  refine meets_try V1_ok (fun _ => rfl) (fun _ => rfl) fun ⟨w, i, t, x⟩ ⟨hp, he, hth⟩ => ⟨⟨wasB w i t x, 3, 2, 1, by decide, by decide, tryStart w i t x, .inl ?_⟩⟩
  repeat' (first | exact @id (emp _ = true) | (intro h; first | exact Bool.noConfusion h | (simp only [Qn] at h) | skip) | ((conv => whnf) <;> (first | exact trivial | apply Qa | apply And.intro | (apply CallP.inl; apply CallP.own1; refine CutE.at (A := Wk8) (w, i, t, x) ?_) | (refine CutE.at (A := Wk8) ((workX w i t x).1.1, i, (workX w i t x).1.2, x) ?_) | apply Qb | apply Qc | apply Qd | apply Qe | apply Qf | apply Qg | apply Qh | apply Qi | exact QA | exact QP | refine QG ?_ | apply Qj | apply Qk | apply Ql | apply Qm | apply Qo | apply Qp | apply Qw | apply Qv | apply Qu | apply Qt | apply Qs | apply Qr | apply Qq | apply Qx | apply wrapS | apply Qy | (with_reducible exact lenNil) | apply Eq.refl)) | ((with_reducible first | apply Y1 | apply Y2 | apply Y3 | show blkEq _ _ _); conv => whnf))
  all_goals first
    | exact hp.d
    | exact he
    | exact hp.i.1
    | (rw [hth]; exact hp.i.2)
    | (rw [hth]; exact hp.n)
    | trace_state
set_option maxHeartbeats 2000000 in
set_option maxRecDepth 100000 in
theorem tryBad_ok : Meets Tryz.prog 33 sTryBad := by
  refine meets_try V1_ok (fun _ => rfl) (fun _ => rfl) fun ⟨w, i, t, x⟩ ⟨hp, he⟩ => ⟨⟨wasB w i t x, 3, 2, 1, by decide, by decide, tryStart w i t x, .inr ⟨(workX w i t x).2, ?_⟩⟩⟩
  repeat' (first | exact @id (emp _ = true) | (intro h; first | exact Bool.noConfusion h | (simp only [Qn] at h) | skip) | ((conv => whnf) <;> (first | exact trivial | apply Qa | apply And.intro | (apply CallP.inr; apply CallP.own1; refine CutE.at (A := Wk8) (w, i, t, x) ?_) | (refine CutE.at (A := Wk8) (w, i, faultT t (workX w i t x).2, x) ?_) | apply Qb | apply Qc | apply Qd | apply Qe | apply Qf | apply Qg | apply Qh | apply Qi | exact QA | exact QP | refine QG ?_ | apply Qj | apply Qk | apply Ql | apply Qm | apply Qo | apply Qp | apply Qw | apply Qv | apply Qu | apply Qt | apply Qs | apply Qr | apply Qq | apply Qx | apply wrapS | apply Qy | (with_reducible exact lenNil) | apply Eq.refl)) | ((with_reducible first | apply Y1 | apply Y2 | apply Y3 | show blkEq _ _ _); conv => whnf))
  all_goals first
    | exact hp.d
    | exact he
    | exact hp.i.1
    | exact hp.i.2
    | exact hp.n
    | exact he (by assumption)
    | omega
    | trace_state
def sFl1 : FSpec := lentPan 1 Int (fun _ => [.c (.ptr 0 0)]) (fun e => [.row 35 [.i e]]) (fun e => ¬ e = 0) (fun e => [.row 35 [.i e]]) chF
def V2 : List (Nat × FSpec) := [(53, sMust)]
theorem V2_ok : GOK Tryz.prog (tab V2) := gok_cons must_ok (gok_nil _)
set_option maxHeartbeats 2000000 in
set_option maxRecDepth 100000 in
theorem fl1_ok : Meets Tryz.prog 52 sFl1 := by
  refine meets_lentPan 1 V2_ok rfl [] (fn := Tryz.f52) rfl rfl rfl (by decide) (fun _ => rfl) (fun _ => rfl) (by decide) fun e he => ?_
  have he : ¬ e = 0 := he
  repeat' (first | exact @id (emp _ = true) | (intro h; first | exact Bool.noConfusion h | (simp only [Qn] at h) | skip) | ((conv => whnf) <;> (first | exact trivial | apply Qa | apply And.intro | apply RegP.pan | apply CallP.inr | apply Qb | apply Qc | apply Qd | apply Qe | apply Qf | apply Qg | apply Qh | apply Qi | exact QA | exact QP | refine QG ?_ | apply Qj | apply Qk | apply Ql | apply Qm | apply Qo | apply Qp | apply Qw | apply Qv | apply Qu | apply Qt | apply Qs | apply Qr | apply Qq | apply Qx | apply wrapS | apply Qy | (with_reducible exact lenNil) | apply Eq.refl)) | ((with_reducible first | apply Y1 | apply Y2 | apply Y3 | show blkEq _ _ _); conv => whnf))
  all_goals first
    | exact he
    | exact he (by assumption)
    | trace_state
def V3 : List (Nat × FSpec) := [(52, sFl1), (71, sWPut)]
theorem V3_ok : GOK Tryz.prog (tab V3) := gok_cons fl1_ok (gok_cons wput_ok (gok_nil _))
abbrev wasE (w : Wd) (i : Int) (t : Th) (x : Ins) (e : Int) : List (Nat × Blk) := [(0, .row 77 (wxC w i t x)), (1, .row 35 [.i e]), (2, .row 72 [.ptr 0 0]), (3, .row 77 (wxC w i t x))]
def sTryFl : FSpec := lentSpec 2 (Wd × Int × Th × Ins × Int) (fun _ => [.c (.ptr 0 0), .c (.fn 52 [.ptr 1 0])]) (fun (w, i, t, x, e) => wxB w i t x ++ [.row 35 [.i e]]) (fun (w, i, _, _, e) => (0 ≤ i ∧ i < w.th.length) ∧ w.th.length ≤ 1000000 ∧ ¬ e = 0) (fun _ => .tup [])
  fun (w, i, t, x, e) => wxB (putW w i (faultT t e)) i (faultT t e) x ++ [.row 35 [.i e]]
set_option maxHeartbeats 2000000 in
set_option maxRecDepth 100000 in
theorem tryFl_ok : Meets Tryz.prog 33 sTryFl := by
  refine meets_try V3_ok (fun _ => rfl) (fun _ => rfl) fun ⟨w, i, t, x, e⟩ ⟨hi, hl, he⟩ => ⟨⟨wasE w i t x e, 4, 3, 2, by decide, by decide, ?_, .inr ⟨e, ?_⟩⟩⟩
  · repeat' (first | exact @id (emp _ = true) | (intro h; first | exact Bool.noConfusion h | (simp only [Qn] at h) | skip) | ((conv => whnf) <;> (first | exact trivial | apply Qa | apply And.intro | apply EntP.id 4 | apply Qb | apply Qc | apply Qd | apply Qe | apply Qf | apply Qg | apply Qh | apply Qi | exact QA | exact QP | refine QG ?_ | apply Qj | apply Qk | apply Ql | apply Qm | apply Qo | apply Qp | apply Qw | apply Qv | apply Qu | apply Qt | apply Qs | apply Qr | apply Qq | apply Qx | apply wrapS | apply Qy | (with_reducible exact lenNil) | apply Eq.refl)) | ((with_reducible first | apply Y1 | apply Y2 | apply Y3 | show blkEq _ _ _); conv => whnf))
    all_goals trace_state
  · repeat' (first | exact @id (emp _ = true) | (intro h; first | exact Bool.noConfusion h | (simp only [Qn] at h) | skip) | ((conv => whnf) <;> (first | exact trivial | apply Qa | apply And.intro | (refine CutE.at (A := Int) e ?_) | (refine CutE.at (A := Wk8) (w, i, faultT t e, x) ?_) | apply Qb | apply Qc | apply Qd | apply Qe | apply Qf | apply Qg | apply Qh | apply Qi | exact QA | exact QP | refine QG ?_ | apply Qj | apply Qk | apply Ql | apply Qm | apply Qo | apply Qp | apply Qw | apply Qv | apply Qu | apply Qt | apply Qs | apply Qr | apply Qq | apply Qx | apply wrapS | apply Qy | (with_reducible exact lenNil) | apply Eq.refl)) | ((with_reducible first | apply Y1 | apply Y2 | apply Y3 | show blkEq _ _ _); conv => whnf))
    all_goals first
      | exact he
      | exact he (by assumption)
      | exact hi.1
      | exact hi.2
      | exact hl
      | omega
      | trace_state
end Go.Eng
