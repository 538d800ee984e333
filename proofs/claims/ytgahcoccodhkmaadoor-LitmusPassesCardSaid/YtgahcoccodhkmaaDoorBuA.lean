/- A part of the walks, and of the machine that proves them (BuA). -/
import Derived.Test.YtgahcoccodhkmaaDoorEngC
import Derived.Test.YtgahcoccodhkmaaDoorProg
import Derived.Test.YtgahcoccodhkmaaDoorMeB
set_option linter.unusedVariables false
set_option linter.unusedSimpArgs false
namespace Go.Eng
open Go Go.Proofs Go.RowKit
set_option maxRecDepth 100000 in
theorem load_put {w : World} {bb o : Nat} {x y : Int} (h1 : w.cell? ⟨bb, o, none⟩ = some (.int .i64 x)) (h2 : w.cell? ⟨bb, o + 1, none⟩ = some (.int .i64 y)) :
    (Instr.loadAt 82 (.pointer (some ⟨bb, o, none⟩))).run Tryd.prog w = .ok (.agg #[.int .i64 x, .int .i64 y]) w := by
  obtain ⟨v, hv, arr, h3, h4, h5⟩ := load_agg (P := Tryd.prog) (O := fun _ => False) (hs := noNames) (w := w) (t := 82) rfl rfl bb o [.i x, .i y] rfl (fun j c hc => by
    match j, hc with
    | 0, hc => cases hc; exact ⟨_, h1, rfl, rfl⟩
    | 1, hc => cases hc; exact ⟨_, h2, rfl, rfl⟩)
  subst h3
  rw [hv]
  have e : arr = #[.int .i64 x, .int .i64 y] := by
    refine Array.ext (by simpa using h4) fun i hi hi' => ?_
    match i, hi' with
    | 0, _ => exact (h5 0 _ arr[0] rfl (Array.getElem?_eq_getElem hi)).1
    | 1, _ => exact (h5 1 _ arr[1] rfl (Array.getElem?_eq_getElem hi)).1
  rw [e]
def m3 (a : Act) : Nat := match a.tmps[3]? with
  | some (Value.int _ i) => (i + 1).toNat
  | _ => 0
set_option maxHeartbeats 2000000 in
set_option maxRecDepth 100000 in
theorem back_calls (l b bb off cap : Nat) (sa : Option Addr) (n : Nat) (x y : Nat → Int) (hn : n ≤ 1000000) (hsa : 0 < n → sa = some ⟨bb, off, none⟩) (J : Nat → World → Prop) (Jx : World → Prop)
    (hc : ∀ k W, J k W → W.cell? ⟨b, 0, none⟩ = some (.slice sa n cap))
    (he : ∀ k W, J k W → ∀ i, i < n → W.cell? ⟨bb, off + i * 2, none⟩ = some (.int .i64 (x i)) ∧ W.cell? ⟨bb, off + (i * 2 + 1), none⟩ = some (.int .i64 (y i)))
    (hY : ∀ k, k < n → ∀ W, J k W → YieldsAt Tryd.prog l #[.int .i64 (n - 1 - k : Int), .agg #[.int .i64 (x (n - 1 - k)), .int .i64 (y (n - 1 - k))]] W fun e W' => (e = .returned (.bool true) ∧ J (k + 1) W') ∨ (e = .returned (.bool false) ∧ Jx W'))
    (w : World) (h0 : J 0 w) :
    CallsIn Fence.wide 0 Tryd.prog 92 #[.func (.yield l) #[] #[], .pointer (some ⟨b, 0, none⟩)] w fun e w' => (∃ v, e = .returned v) ∧ (J n w' ∨ Jx w') := by
  refine callsIn_of_wp Tryd.func92 rfl trivial ?_ rfl
  simp only [Tryd.ntmps92, List.size_toArray, List.length_cons, List.length_nil, Nat.reduceAdd, Nat.reduceSub, Array.replicate_succ, Array.replicate_zero, List.push_toArray, List.append_toArray, List.nil_append, List.cons_append]
  have hcw := hc 0 w h0
  gi_wp2
  refine wpIn_loop (fun a w => ∃ (k : Nat) (v : Nat → Value), k ≤ n ∧ J k w ∧ a = { tmps := #[.func (.yield l) #[] #[], .pointer (some ⟨b, 0, none⟩), v 2, .int .i64 (n - 1 - k : Int), v 4, v 5, v 6, v 7, v 8, v 9, v 10, v 11, v 12, v 13, v 14, v 15, v 16, v 17, v 18], defers := [] })
    (fun a _ => m3 a) ?_ ?_
  · refine ⟨0, fun i => if i = 4 then .slice sa n cap else if i = 5 then .int .i64 n else if i = 6 then .int .i64 (n - 1) else undef, by omega, h0, ?_⟩
    simp
  rintro a w ⟨k, v, hk, hJ, rfl⟩
  have hcw := hc k w hJ
  by_cases hkn : k = n
  · subst hkn
    gi_wp2
    exact bodyPost_end (results_none rfl _ _ _) rfl ⟨⟨_, rfl⟩, .inl hJ⟩
  have hlt : k < n := by omega
  obtain ⟨fn, tmps, assign, body, hy, hR⟩ := hY k hlt w hJ
  have hs1 := hsa (by omega)
  subst hs1
  have hidx : (Instr.indexAt 80 (.slice (some ⟨bb, off, none⟩) n cap) (.int .i64 (n - 1 - k : Int))).run Tryd.prog w = .ok (.pointer (some ⟨bb, off + (n - 1 - k) * 2, none⟩)) w := by
    have := run_indexAt_slice (P := Tryd.prog) (t := 80) (e := 82) rfl rfl w .i64 (n - 1 - k : Int) bb off n cap (by omega)
    rw [this]
    have e : (n - 1 - k : Int).toNat = n - 1 - k := by omega
    rw [e]; rfl
  have hl := he k w hJ (n - 1 - k) (by omega)
  have hl1 := hl.1
  have hl2 : w.cell? ⟨bb, off + (n - 1 - k) * 2 + 1, none⟩ = _ := hl.2
  clear hl
  gi_wp2
  refine ⟨rfl, hR.mono ?_⟩
  rintro e W1 (⟨rfl, hJ1⟩ | ⟨rfl, hx1⟩)
  · gi_wp2
    refine ⟨⟨k + 1, fun i => if i = 2 then v 2 else if i = 4 then v 4 else if i = 5 then v 5 else if i = 6 then v 6 else if i = 8 then .bool true else if i = 7 ∨ i = 9 ∨ i = 12 ∨ i = 14 then .int .i64 (n - 1 - k) else if i = 10 then .int .i64 (n - 1 - k - 1) else
      if i = 11 then .func (.yield l) #[] #[] else if i = 13 then .slice (some ⟨bb, off, none⟩) n cap else if i = 15 then .pointer (some ⟨bb, off + (n - 1 - k) * 2, none⟩) else if i = 16 then .agg #[.int .i64 (x (n - 1 - k)), .int .i64 (y (n - 1 - k))] else if i = 17 then .bool true else .bool false, by omega, hJ1, ?_⟩, ?_⟩
    · have e : (n : Int) - 1 - (k + 1 : Nat) = n - 1 - k - 1 := by omega
      rw [e]
      rfl
    · show (_ : Int).toNat < (_ : Int).toNat
      omega
  · gi_wp2
    exact bodyPost_ret (results_none rfl _ _ _) rfl ⟨⟨_, rfl⟩, .inr hx1⟩
end Go.Eng
namespace Go.Eng
open Go Go.Proofs
abbrev Put := Int × Int
def encP (p : Put) : List Cell := [.i p.1, .i p.2]
abbrev putsS (l : List Put) : Cell := slC 2 encP l
def sBack1 : FSpec where
  G := OwnG 1 (List Put)
  args := fun _ => [.c (.ptr 0 0)]
  blks := fun γ => [(0, .row 80 [putsS γ.g])]
  pre := fun γ => γ.g.length ≤ 1000000
  res := fun _ => .any
  post := fun γ => [(0, .row 80 [putsS γ.g])]
  yields := fun γ => some (γ.g.length, fun k => [.c (.i (γ.g.length - 1 - k)), .agg (encP (γ.g.getD (γ.g.length - 1 - k) default))])
set_option maxRecDepth 100000 in
theorem back1_ok : Meets Tryd.prog 92 sBack1 where
  pn := fun γ j b h => by
    show j < 1
    by_cases e : 0 = j
    · omega
    · simp [sBack1, look, e] at h
  qn := fun γ j b h => by
    show j < 1
    by_cases e : 0 = j
    · omega
    · simp [sBack1, look, e] at h
  full := fun γ j h => by
    have : j = 0 := by have : j < 1 := h; omega
    subst this
    exact ⟨_, rfl⟩
  kp := fun γ j b h => ⟨b, h⟩
  body := ⟨_, Tryd.func92, rfl, rfl⟩
  run := fun γ h => nomatch h
  iter := fun ⟨l⟩ n item hy hpre F hs w vals hnone hargs hrep L J Jx hkeep hY h0 => by
    cases hy
    obtain ⟨h1, h2⟩ := hargs
    have h1 : vals.size = 1 := h1
    obtain ⟨b, hb, hv⟩ := h2 0 _ vals[0] rfl (Array.getElem?_eq_getElem (by omega))
    have hvals : vals = #[.pointer (some ⟨b, 0, none⟩)] := by
      refine Array.ext (by simpa using h1) fun i hi hi' => ?_
      have : i = 0 := by omega
      subst this
      exact hv
    subst hvals
    obtain ⟨x, cs, hx, hheap, hsz, hcs⟩ := row_of hrep (j := 0) rfl
    have : x = b := by rw [hb] at hx; simpa using hx.symm
    subst this
    obtain ⟨u, _, hcu, a, cap, hu, hcap, _, _, hel⟩ := hcs 0 _ rfl
    subst hu
    have hk : ∀ k W, J k W → Kept F w W := fun k W hJ => ⟨(hkeep k W hJ).1, (hkeep k W hJ).2⟩
    have hbF : ¬ F x := fun hF => hrep.apart x hF ⟨0, _, _, rfl, hb, rfl⟩
    have key : ∀ bb off, (0 < l.length → a = some ⟨bb, off, none⟩ ∧ ¬ F bb ∧ ∀ i, i < l.length → ∀ t, t < 2 → ∃ x, w.cell? ⟨bb, off + (i * 2 + t), none⟩ = some x ∧ Rel (Osum F hs (look (sBack1.blks ⟨l⟩))) w (slG encP l i t) noNames x) →
        CallsIn Fence.wide 0 Tryd.prog 92 #[.func (.yield L) #[] #[], .pointer (some ⟨x, 0, none⟩)] w fun e w' => (∃ v, e = .returned v) ∧ (J l.length w' ∨ Jx w') := by
      intro bb off h
      refine back_calls L x bb off cap a l.length (fun i => (l.getD i default).1) (fun i => (l.getD i default).2) hpre (fun hp => (h hp).1) J Jx (fun k W hJ => (hk k W hJ).cell hbF hcu) (fun k W hJ i hi => ?_) (fun k hk' W hJ => hY k hk' W hJ) w h0
      obtain ⟨_, h3, h4⟩ := h (by omega)
      obtain ⟨u0, h5, h6, _⟩ := h4 i hi 0 (by omega)
      obtain ⟨u1, h7, h8, _⟩ := h4 i hi 1 (by omega)
      subst h6; subst h8
      exact ⟨(hk k W hJ).cell h3 h5, (hk k W hJ).cell h3 h7⟩
    by_cases hp : 0 < l.length
    · obtain ⟨bb, off, h3, h4, _, h5⟩ := hel hp
      exact key bb off fun _ => ⟨h3, fun hF => h4 (.inl hF), h5⟩
    · exact key 0 0 fun h => (hp h).elim
end Go.Eng
namespace Go.Eng
open Go Go.Proofs
def sBack : FSpec := lentSpec 0 (List Put) (fun l => [.c (putsS l)]) (fun _ => []) (fun l => l.length ≤ 1000000) (fun _ => .c (.fn 92 [.ptr 0 0])) fun l => [.row 80 [putsS l]]
set_option maxHeartbeats 2000000 in
set_option maxRecDepth 100000 in
theorem back_ok : Meets Tryd.prog 78 sBack := by
  refine meets_lent 1 (gok_nil _) rfl [] (fn := Tryd.f78) rfl rfl rfl (by decide) (fun _ => rfl) (fun _ => rfl) (by decide) fun l hl => ?_
  repeat' (first | exact @id (emp _ = true) | (intro h; first | exact Bool.noConfusion h | (simp only [Qn] at h) | skip) | ((conv => whnf) <;> (first | exact trivial | apply Qa | apply And.intro | apply Qb | apply Qc | apply Qd | apply Qe | apply Qf | apply Qg | apply Qh | apply Qi | exact QA | exact QP | refine QG ?_ | apply Qj | apply Qk | apply Ql | apply Qm | apply Qo | apply Qp | apply Qw | apply Qv | apply Qu | apply Qt | apply Qs | apply Qr | apply Qq | apply Qx | apply wrapS | apply Qy | (with_reducible exact lenNil) | apply Eq.refl)) | ((with_reducible first | apply Y1 | apply Y2 | apply Y3 | show blkEq _ _ _); conv => whnf))
def newestN (l : List Put) (at' : Int) : Nat → Int × Bool
  | 0 => (0, false)
  | k + 1 => if (l.getD k default).1 = at' then ((l.getD k default).2, true) else newestN l at' k
def newestF (l : List Put) (at' : Int) : Int × Bool := newestN l at' l.length
theorem newest_at {l : List Put} {at' : Int} {k : Nat} (hk : k < l.length) : newestN l at' (l.length - k) = if (l.getD (l.length - 1 - k) default).1 = at' then ((l.getD (l.length - 1 - k) default).2, true) else newestN l at' (l.length - (k + 1)) := by
  have e : l.length - k = (l.length - 1 - k) + 1 := by omega
  have e' : l.length - (k + 1) = l.length - 1 - k := by omega
  rw [e, e', newestN]
def sNewest : FSpec := spec (List Put × Int) (fun (l, at') => [.c (putsS l), .i at']) (fun (l, _) => l.length ≤ 1000000) fun (l, at') => .tup [.c (.i (newestF l at').1), .c (.b (newestF l at').2)]
def B1 : List (Nat × FSpec) := [(78, sBack), (92, sBack1)]
theorem B1_ok : GOK Tryd.prog (tab B1) := gok_cons back_ok (gok_cons back1_ok (gok_nil _))
set_option maxHeartbeats 2000000 in
set_option maxRecDepth 100000 in
theorem newest_ok : Meets Tryd.prog 61 sNewest := by
  refine meets_plain B1_ok rfl [] (fn := Tryd.f61) rfl rfl rfl (by decide) fun ⟨l, at'⟩ hl => ?_
  repeat' (first | exact @id (emp _ = true) | (intro h; first | exact Bool.noConfusion h | (simp only [Qn] at h) | skip) | ((conv => whnf) <;> (first | exact trivial | apply Qa | apply And.intro | apply Qb | apply Qc | apply Qd | apply Qe | apply Qf | apply Qg | apply Qh | apply Qi | exact QA | exact QP | refine QG ?_ | apply Qj | apply Qk | apply Ql | apply Qm | apply Qo | apply Qp | apply Qw | apply Qv | apply Qu | apply Qt | apply Qs | apply Qr | apply Qq | apply Qx | apply wrapS | apply Qy | (with_reducible exact lenNil) | apply Eq.refl)) | ((with_reducible first | apply Y1 | apply Y2 | apply Y3 | show blkEq _ _ _); conv => whnf))
  · exact hl
  · exact hl
  apply RangeP.go Unit (fun k _ => newestF l at' = newestN l at' (l.length - k)) (fun _ => [(0, .row 3 [.i at']), (1, .row 3 [.i 0]), (2, .row 4 [.b false])]) (fun _ => 4)
  apply And.intro
  · refine CutE.at () ?_
    repeat' (first | exact @id (emp _ = true) | (intro h; first | exact Bool.noConfusion h | (simp only [Qn] at h) | skip) | ((conv => whnf) <;> (first | exact trivial | apply Qa | apply And.intro | apply Qb | apply Qc | apply Qd | apply Qe | apply Qf | apply Qg | apply Qh | apply Qi | exact QA | exact QP | refine QG ?_ | apply Qj | apply Qk | apply Ql | apply Qm | apply Qo | apply Qp | apply Qw | apply Qv | apply Qu | apply Qt | apply Qs | apply Qr | apply Qq | apply Qx | apply wrapS | apply Qy | (with_reducible exact lenNil) | apply Eq.refl)) | ((with_reducible first | apply Y1 | apply Y2 | apply Y3 | show blkEq _ _ _); conv => whnf))
  apply And.intro
  · intro k g hk hI
    have hs := newest_at (at' := at') hk
    repeat' (first | exact @id (emp _ = true) | (intro h; first | exact Bool.noConfusion h | (simp only [Qn] at h) | skip) | ((conv => whnf) <;> (first | exact trivial | apply Qa | apply And.intro | apply Qb | apply Qc | apply Qd | apply Qe | apply Qf | apply Qg | apply Qh | apply Qi | exact QA | exact QP | refine QG ?_ | apply Qj | apply Qk | apply Ql | apply Qm | apply Qo | apply Qp | apply Qw | apply Qv | apply Qu | apply Qt | apply Qs | apply Qr | apply Qq | apply Qx | apply wrapS | apply Qy | (with_reducible exact lenNil) | apply Eq.refl)) | ((with_reducible first | apply Y1 | apply Y2 | apply Y3 | show blkEq _ _ _); conv => whnf))
    all_goals (by_cases hc : (l.getD (l.length - 1 - k) default).1 = at')
    all_goals first | rw [if_pos hc] at hs | rw [if_neg hc] at hs
    all_goals have hn := hI.trans hs
    all_goals first
      | contradiction
      | exact congrArg Prod.fst hn
      | exact congrArg Prod.snd hn
      | exact hn
      | trace_state
  · intro g hI
    have hn : newestF l at' = (0, false) := hI.trans (by show newestN l at' (l.length - l.length) = _; rw [Nat.sub_self]; rfl)
    repeat' (first | exact @id (emp _ = true) | (intro h; first | exact Bool.noConfusion h | (simp only [Qn] at h) | skip) | ((conv => whnf) <;> (first | exact trivial | apply Qa | apply And.intro | apply Qb | apply Qc | apply Qd | apply Qe | apply Qf | apply Qg | apply Qh | apply Qi | exact QA | exact QP | refine QG ?_ | apply Qj | apply Qk | apply Ql | apply Qm | apply Qo | apply Qp | apply Qw | apply Qv | apply Qu | apply Qt | apply Qs | apply Qr | apply Qq | apply Qx | apply wrapS | apply Qy | (with_reducible exact lenNil) | apply Eq.refl)) | ((with_reducible first | apply Y1 | apply Y2 | apply Y3 | show blkEq _ _ _); conv => whnf))
    all_goals first
      | exact congrArg Prod.fst hn
      | exact congrArg Prod.snd hn
      | trace_state
end Go.Eng
namespace Go.Eng
open Go Go.Proofs
def pushF (b : List Put) (depth : Int) (p : Put) : List Put × Int :=
  if depth < 0 ∨ depth > 8 ∨ b.length > depth then ([], 1) else if b.length = depth then ([], 7) else (b ++ [p], 0)
def sPush : FSpec := spec (List Put × Int × Put) (fun (b, d, p) => [.c (putsS b), .i d, .agg (encP p)]) (fun (b, _, _) => b.length ≤ 1000000) (fun (b, d, p) => .tup [.c (putsS (pushF b d p).1), .c (.i (pushF b d p).2)])
theorem push_cases (b : List Put) (d : Int) (p : Put) : ((d < 0 ∨ d > 8 ∨ b.length > d) ∧ pushF b d p = ([], 1)) ∨ ((0 ≤ d ∧ d ≤ 8 ∧ b.length = d) ∧ pushF b d p = ([], 7)) ∨ ((0 ≤ d ∧ d ≤ 8 ∧ b.length < d) ∧ pushF b d p = (b ++ [p], 0)) := by
  by_cases h1 : d < 0 ∨ d > 8 ∨ b.length > d
  · exact .inl ⟨h1, if_pos h1⟩
  · by_cases h2 : (b.length : Int) = d
    · exact .inr (.inl ⟨by omega, by rw [pushF, if_neg h1, if_pos h2]⟩)
    · exact .inr (.inr ⟨by omega, by rw [pushF, if_neg h1, if_neg h2]⟩)
set_option maxHeartbeats 2000000 in
set_option maxRecDepth 100000 in
theorem push_ok : Meets Tryd.prog 59 sPush := by
  refine meets_plain (gok_nil _) rfl [] (fn := Tryd.f59) rfl rfl rfl (by decide) fun ⟨b, d, p⟩ hl => ?_
  repeat' (first | exact @id (emp _ = true) | (intro h; first | exact Bool.noConfusion h | (simp only [Qn] at h) | skip) | ((conv => whnf) <;> (first | exact trivial | apply Qa | apply And.intro | apply Qb | apply Qc | apply Qd | apply Qe | apply Qf | apply Qg | apply Qh | apply Qi | exact QA | exact QP | refine QG ?_ | apply Qj | apply Qk | apply Ql | apply Qm | apply Qo | apply Qp | apply Qw | apply Qv | apply Qu | apply Qt | apply Qs | apply Qr | apply Qq | apply Qx | apply wrapS | apply Qy | (with_reducible exact lenNil) | apply Eq.refl)) | ((with_reducible first | apply Y1 | apply Y2 | apply Y3 | show blkEq _ _ _); conv => whnf))
  all_goals
    rcases push_cases b d p with ⟨hc, e⟩ | ⟨hc, e⟩ | ⟨hc, e⟩
    all_goals first
      | omega
      | (rw [e]; done)
      | (show ((b.length - 0 : Int).toNat + 1) * 16 ≤ _; omega)
      | (simp only [e] at *; simp at *; done)
      | (rw [e]; simp; done)
      | (rename_i i hi t
         rw [e] at hi ⊢
         show slG encP (b ++ [p]) i t = catG (b.length - 0 : Int).toNat (fun i t => slG encP b (0 + i) t) (litG 2 (encP p)) i t
         have e0 : (b.length - 0 : Int).toNat = b.length := by omega
         simp only [e0, Nat.zero_add]
         exact (slG_snoc (enc := encP) rfl rfl i (by simpa using hi) t h).symm)
      | trace_state
end Go.Eng
namespace Go.Eng
open Go Go.Proofs
def sClone : FSpec := spec (List Put) (fun l => [.c (putsS l)]) (fun l => l.length ≤ 1000000) fun l => .c (putsS l)
set_option maxHeartbeats 2000000 in
set_option maxRecDepth 100000 in
theorem clone_ok : Meets Tryd.prog 56 sClone := by
  refine meets_plain (gok_nil _) rfl [] (fn := Tryd.f56) rfl rfl rfl (by decide) fun l hl => ?_
  repeat' (first | exact @id (emp _ = true) | (intro h; first | exact Bool.noConfusion h | (simp only [Qn] at h) | skip) | ((conv => whnf) <;> (first | exact trivial | apply Qa | apply And.intro | apply Qb | apply Qc | apply Qd | apply Qe | apply Qf | apply Qg | apply Qh | apply Qi | exact QA | exact QP | refine QG ?_ | apply Qj | apply Qk | apply Ql | apply Qm | apply Qo | apply Qp | apply Qw | apply Qv | apply Qu | apply Qt | apply Qs | apply Qr | apply Qq | apply Qx | apply wrapS | apply Qy | (with_reducible exact lenNil) | apply Eq.refl)) | ((with_reducible first | apply Y1 | apply Y2 | apply Y3 | show blkEq _ _ _); conv => whnf))
  all_goals have hl : l.length ≤ 1000000 := hl
  all_goals try simp only at *
  all_goals first
    | omega
    | (show (0 + l.length) * 16 ≤ _; omega)
    | trace_state
def sPop : FSpec := spec (List Put) (fun l => [.c (putsS l)]) (fun l => l.length ≤ 1000000) fun l => .tup [.agg (encP (l.getD 0 default)), .c (putsS (l.drop 1)), .c (.i (if l.length = 0 then 8 else 0))]
def B2 : List (Nat × FSpec) := [(56, sClone)]
theorem B2_ok : GOK Tryd.prog (tab B2) := gok_cons clone_ok (gok_nil _)
set_option maxHeartbeats 2000000 in
set_option maxRecDepth 100000 in
theorem pop_ok : Meets Tryd.prog 40 sPop := by
  refine meets_plain B2_ok rfl [] (fn := Tryd.f40) rfl rfl rfl (by decide) fun l hl => ?_
  repeat' (first | exact @id (emp _ = true) | (intro h; first | exact Bool.noConfusion h | (simp only [Qn] at h) | skip) | ((conv => whnf) <;> (first | exact trivial | apply Qa | apply And.intro | apply Qb | apply Qc | apply Qd | apply Qe | apply Qf | apply Qg | apply Qh | apply Qi | exact QA | exact QP | refine QG ?_ | apply Qj | apply Qk | apply Ql | apply Qm | apply Qo | apply Qp | apply Qw | apply Qv | apply Qu | apply Qt | apply Qs | apply Qr | apply Qq | apply Qx | apply wrapS | apply Qy | (with_reducible exact lenNil) | apply Eq.refl)) | ((with_reducible first | apply Y1 | apply Y2 | apply Y3 | show blkEq _ _ _); conv => whnf))
  all_goals have hl : l.length ≤ 1000000 := hl
  all_goals try simp only at *
  all_goals first
    | omega
    | (simp only [List.length_drop]; omega)
    | (have e : l = [] := List.eq_nil_of_length_eq_zero (by omega)
       subst e
       first | rfl | (rename_i i hi t; exact (Nat.not_lt_zero _ hi).elim))
    | (have e : ¬ l.length = 0 := by omega
       simp [e]; done)
    | (show (List.drop 1 l).length ≤ 1000000; rw [List.length_drop]; omega)
    | exact (slG_drop l 1 _ _).symm
    | (rename_i i hi t; rw [List.length_drop] at hi; omega)
    | trace_state
end Go.Eng
namespace Go.Eng
open Go Go.Proofs
def sRNewest : FSpec := sNewest
def mayF (b : List Put) (d : Int) : Bool := decide (0 ≤ d ∧ d ≤ 8 ∧ b.length ≤ d)
def sRMay : FSpec := spec (List Put × Int) (fun (b, d) => [.c (putsS b), .i d]) (fun (b, _) => b.length ≤ 1000000) fun (b, d) => .b (mayF b d)
end Go.Eng
namespace Go.Eng
open Go Go.Proofs
def sRPush : FSpec := spec (List Put × Put) (fun (b, p) => [.c (putsS b), .agg (encP p)]) (fun (b, _) => b.length ≤ 1000000) fun (b, p) => .c (putsS (b ++ [p]))
end Go.Eng
namespace Go.Eng
open Go Go.Proofs
theorem eq_of_upG {α : Type} [Inhabited α] {a b : List α} (h : a.length = b.length) {k : Nat} (hk : a.length ≤ k) (hu : Up k fun i => a.getD i default = b.getD i default) : a = b := by
  apply List.ext_getElem h
  intro i h1 h2
  have := hu.get i (by omega)
  simpa [List.getD_eq_getElem?_getD, List.getElem?_eq_getElem h1, List.getElem?_eq_getElem h2] using this
def sRSame : FSpec := spec (List Put × List Put) (fun (a, b) => [.c (putsS a), .c (putsS b)]) (fun (a, b) => a.length ≤ 1000000 ∧ b.length ≤ 1000000) fun (a, b) => .b (decide (a = b))
def restT (l : List Put) (k : Nat) : List Put := (l.take k).drop 1
theorem restT_len {l : List Put} {k : Nat} (hk : k ≤ l.length) : (restT l k).length = k - 1 := by simp [restT]; omega
theorem restT_snoc {l : List Put} {k : Nat} (h0 : 0 < k) (hk : k < l.length) : restT l (k + 1) = restT l k ++ [l.getD k default] := by
  unfold restT
  rw [take_getD (d := default) hk, List.drop_append_of_le_length (by simp; omega)]
theorem restT_end {l : List Put} {k : Nat} (hk : ¬ k < l.length) : restT l k = l.drop 1 := by
  unfold restT
  rw [List.take_of_length_le (by omega)]
def sRRest : FSpec := spec (List Put) (fun l => [.c (putsS l)]) (fun l => l.length ≤ 1000000) fun l => .c (putsS (l.drop 1))
end Go.Eng
namespace Go.Eng
open Go Go.Proofs
/-- All puts stored, from the i-th on. -/
def foldG (ts : List Int) : List Int → List Put → Nat → (List Int × List Int) × Int × Int
  | ws, [], _ => ((ws, ts), 0, 0)
  | ws, p :: r, i => if useF ws ts p.1 = 0 then foldG ts (ws.set p.1.toNat p.2) r (i + 1) else (([], []), i, useF ws ts p.1)
def foldF (ws ts : List Int) (b : List Put) : (List Int × List Int) × Int × Int := if memR ws ts = true then foldG ts ws b 0 else (([], []), 0, 1)
theorem foldG_go {ts ws : List Int} {b : List Put} {k : Nat} (hk : k < b.length) (hu : useF ws ts (b.getD k default).1 = 0) :
    foldG ts ws (b.drop k) k = foldG ts (ws.set (b.getD k default).1.toNat (b.getD k default).2) (b.drop (k + 1)) (k + 1) := by
  rw [drop_getD (d := default) hk, foldG, if_pos hu]
theorem foldG_no {ts ws : List Int} {b : List Put} {k : Nat} (hk : k < b.length) (hu : useF ws ts (b.getD k default).1 ≠ 0) :
    foldG ts ws (b.drop k) k = (([], []), (k : Int), useF ws ts (b.getD k default).1) := by
  rw [drop_getD (d := default) hk, foldG, if_neg hu]
theorem foldG_end {ts ws : List Int} {b : List Put} {k : Nat} (hk : ¬ k < b.length) : foldG ts ws (b.drop k) k = ((ws, ts), 0, 0) := by
  rw [List.drop_eq_nil_of_le (by omega)]; rfl
/-- The state of a fold behind k puts. -/
structure FoldI (ts : List Int) (b : List Put) (w0 : List Int) (s : Nat × List Int) : Prop where
  hk : s.1 ≤ b.length
  hm : memR s.2 ts = true
  hl : s.2.length = w0.length
  run : foldG ts w0 b 0 = foldG ts s.2 (b.drop s.1) s.1
theorem FoldI.start {ts : List Int} {b : List Put} {w0 : List Int} (h : memR w0 ts = true) : FoldI ts b w0 (0, w0) := ⟨Nat.zero_le _, h, rfl, by simp⟩
theorem FoldI.step {ts : List Int} {b : List Put} {w0 ws : List Int} {k : Nat} (h : FoldI ts b w0 (k, ws)) (hk : k < b.length) (hu : useF ws ts (b.getD k default).1 = 0) :
    FoldI ts b w0 (k + 1, ws.set (b.getD k default).1.toNat (b.getD k default).2) :=
  ⟨hk, memR_set hu, by have := h.hl; simpa using this, by rw [h.run]; exact foldG_go hk hu⟩
theorem FoldI.stop {ts : List Int} {b : List Put} {w0 ws : List Int} {k : Nat} (h : FoldI ts b w0 (k, ws)) (hk : k < b.length) (hu : useF ws ts (b.getD k default).1 ≠ 0) :
    foldG ts w0 b 0 = (([], []), (k : Int), useF ws ts (b.getD k default).1) := by rw [h.run]; exact foldG_no hk hu
theorem FoldI.done {ts : List Int} {b : List Put} {w0 ws : List Int} {k : Nat} (h : FoldI ts b w0 (k, ws)) (hk : ¬ k < b.length) : foldG ts w0 b 0 = ((ws, ts), 0, 0) := by rw [h.run]; exact foldG_end hk
theorem newestN_cons (p : Put) (r : List Put) (a : Int) : ∀ k, newestN (p :: r) a (k + 1) = if (newestN r a k).2 = true then newestN r a k else if p.1 = a then (p.2, true) else (0, false)
  | 0 => by simp [newestN]
  | k + 1 => by
    rw [newestN]
    show (if (r.getD k default).1 = a then ((r.getD k default).2, true) else newestN (p :: r) a (k + 1)) = _
    rw [newestN_cons p r a k, newestN]
    by_cases h : (r.getD k default).1 = a
    · simp only [if_pos h]; rfl
    · simp only [if_neg h]
theorem newest_cons (p : Put) (r : List Put) (a : Int) : newestF (p :: r) a = if (newestF r a).2 = true then newestF r a else if p.1 = a then (p.2, true) else (0, false) := newestN_cons p r a r.length
theorem useF_eq {ws ts : List Int} (h : memR ws ts = true) (a : Int) : useF ws ts a = if a < 0 ∨ ws.length ≤ a then 3 else whyF (ts.getD a.toNat default) := by rw [useF, if_pos h]
theorem fold_tags {ts : List Int} : ∀ (b : List Put) (ws : List Int) (i : Nat), (foldG ts ws b i).2.2 = 0 → (foldG ts ws b i).1.2 = ts ∧ (foldG ts ws b i).1.1.length = ws.length ∧ (foldG ts ws b i).2.1 = 0
  | [], ws, i, _ => ⟨rfl, rfl, rfl⟩
  | p :: r, ws, i, h => by
    by_cases hu : useF ws ts p.1 = 0
    · rw [foldG, if_pos hu] at h ⊢
      have := fold_tags r _ _ h
      simpa using this
    · rw [foldG, if_neg hu] at h
      exact absurd h hu
/-- What stands at a place once all is stored. -/
theorem view {ts : List Int} {a : Int} : ∀ (b : List Put) (ws : List Int) (i : Nat), memR ws ts = true → (foldG ts ws b i).2.2 = 0 →
    ((newestF b a).2 = true → loadF (foldG ts ws b i).1.1 ts a = ((newestF b a).1, 0) ∧ useF ws ts a = 0) ∧
    ((newestF b a).2 = false → (newestF b a).1 = 0 ∧ loadF (foldG ts ws b i).1.1 ts a = loadF ws ts a)
  | [], ws, i, hm, h => ⟨fun h => Bool.noConfusion h, fun _ => ⟨rfl, rfl⟩⟩
  | p :: r, ws, i, hm, h => by
    by_cases hu : useF ws ts p.1 = 0
    · rw [foldG, if_pos hu] at h ⊢
      obtain ⟨h1, h2⟩ := view (a := a) r _ _ (memR_set hu) h
      rw [newest_cons]
      by_cases hn : (newestF r a).2 = true
      · rw [if_pos hn]
        refine ⟨fun _ => ?_, fun h => by rw [hn] at h; cases h⟩
        obtain ⟨g1, g2⟩ := h1 hn
        exact ⟨g1, by rw [useF_set hu] at g2; exact g2⟩
      · have hn' : (newestF r a).2 = false := by simpa using hn
        obtain ⟨g1, g2⟩ := h2 hn'
        rw [if_neg hn]
        by_cases e : p.1 = a
        · subst e
          rw [if_pos rfl]
          exact ⟨fun _ => ⟨by rw [g2]; exact holds1 hu, hu⟩, fun h => by cases h⟩
        · rw [if_neg e]
          exact ⟨fun h => (by cases h), fun _ => ⟨rfl, by rw [g2]; exact holds2 hu (Ne.symm e)⟩⟩
    · rw [foldG, if_neg hu] at h
      exact absurd h hu
theorem foldF_bad {ws ts : List Int} {b : List Put} (h : memR ws ts = false) : foldF ws ts b = (([], []), 0, 1) := by rw [foldF, if_neg (by simp [h])]
theorem foldF_good {ws ts : List Int} {b : List Put} (h : memR ws ts = true) : foldF ws ts b = foldG ts ws b 0 := by rw [foldF, if_pos h]
theorem foldG_bad {ts : List Int} : ∀ (b : List Put) (ws : List Int) (i : Nat), (foldG ts ws b i).2.2 ≠ 0 → (foldG ts ws b i).1 = ([], [])
  | [], ws, i, h => absurd rfl h
  | p :: r, ws, i, h => by
    by_cases hu : useF ws ts p.1 = 0
    · rw [foldG, if_pos hu] at h ⊢
      exact foldG_bad r _ _ h
    · rw [foldG, if_neg hu]
theorem foldG_len {ts : List Int} : ∀ (b : List Put) (ws : List Int) (i : Nat), (foldG ts ws b i).1.1.length ≤ ws.length ∧ (foldG ts ws b i).1.2.length ≤ ts.length
  | [], ws, i => ⟨Nat.le_refl _, Nat.le_refl _⟩
  | p :: r, ws, i => by
    rw [foldG]
    split
    · have := foldG_len (ts := ts) r (ws.set p.1.toNat p.2) (i + 1)
      simpa using this
    · simp
theorem foldF_len (ws ts : List Int) (b : List Put) : (foldF ws ts b).1.1.length ≤ ws.length ∧ (foldF ws ts b).1.2.length ≤ ts.length := by
  unfold foldF
  split
  · exact foldG_len _ _ _
  · simp
end Go.Eng
namespace Go.Eng
open Go Go.Proofs
def sTrueB (G : Type) (args : G → List RV) : FSpec := spec G args (fun _ => True) fun _ => .b true
def B5 : List (Nat × FSpec) := [(59, sPush), (61, sNewest), (40, sPop)]
theorem B5_ok : GOK Tryd.prog (tab B5) := gok_cons push_ok (gok_cons newest_ok (gok_cons pop_ok (gok_nil _)))
def sBufAlive : FSpec := sTrueB Unit fun _ => []
def B6 : List (Nat × FSpec) := B5
theorem B6_ok : GOK Tryd.prog (tab B6) := B5_ok
def sTells : FSpec := sTrueB (List Put × Int × Put × Int) fun (b, d, p, a) => [.c (putsS b), .i d, .agg (encP p), .i a]
end Go.Eng
namespace Go.Eng
open Go Go.Proofs
def sFold : FSpec := spec (List Int × List Int × List Put) (fun (ws, ts, b) => [.agg (memC ws ts), .c (putsS b)]) (fun (_, _, b) => b.length ≤ 1000000) fun (ws, ts, b) => .tup [rMem (foldF ws ts b).1, .c (.i (foldF ws ts b).2.1), .c (.i (foldF ws ts b).2.2)]
def sRFold : FSpec := spec (List Int × List Int × List Put) (fun (ws, ts, b) => [.agg (memC ws ts), .c (putsS b)]) (fun (ws, ts, b) => memR ws ts = true ∧ b.length ≤ 1000000) fun (ws, ts, b) => .tup [rMem (foldF ws ts b).1, .c (.i (foldF ws ts b).2.1), .c (.i (foldF ws ts b).2.2)]
def B3 : List (Nat × FSpec) := (41, sStore) :: M3
theorem B3_ok : GOK Tryd.prog (tab B3) := gok_cons store_ok (M3_ok)
theorem storeF_why (ws ts : List Int) (a v : Int) : (storeF ws ts a v).2 = useF ws ts a := by
  unfold storeF
  split
  · rename_i h; rw [h]
  · rfl
end Go.Eng
