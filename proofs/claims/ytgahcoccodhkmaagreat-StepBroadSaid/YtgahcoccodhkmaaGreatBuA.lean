/- A part of the walks, and of the machine that proves them (BuA). -/
import Derived.Test.YtgahcoccodhkmaaGreatEngC
import Derived.Test.YtgahcoccodhkmaaGreatProg
import Derived.Test.YtgahcoccodhkmaaGreatMeB
set_option linter.unusedVariables false
set_option linter.unusedSimpArgs false
namespace Go.Eng
open Go Go.Proofs Go.RowKit
def m3 (a : Act) : Nat := match a.tmps[3]? with
  | some (Value.int _ i) => (i + 1).toNat
  | _ => 0
set_option maxHeartbeats 2000000 in
set_option maxRecDepth 100000 in
theorem back_calls (l b bb off cap : Nat) (sa : Option Addr) (n : Nat) (x y : Nat → Int) (hn : n ≤ 1000000) (hsa : 0 < n → sa = some ⟨bb, off, none⟩) (J : Nat → World → Prop) (Jx : World → Prop)
    (hc : ∀ k W, J k W → W.cell? ⟨b, 0, none⟩ = some (.slice sa n cap))
    (he : ∀ k W, J k W → ∀ i, i < n → W.cell? ⟨bb, off + i * 2, none⟩ = some (.int .i64 (x i)) ∧ W.cell? ⟨bb, off + (i * 2 + 1), none⟩ = some (.int .i64 (y i)))
    (hY : ∀ k, k < n → ∀ W, J k W → YieldsAt Tryz.prog l #[.int .i64 (n - 1 - k : Int), .agg #[.int .i64 (x (n - 1 - k)), .int .i64 (y (n - 1 - k))]] W fun e W' => (e = .returned (.bool true) ∧ J (k + 1) W') ∨ (e = .returned (.bool false) ∧ Jx W'))
    (w : World) (h0 : J 0 w) :
    CallsIn Fence.wide 0 Tryz.prog 158 #[.func (.yield l) #[] #[], .pointer (some ⟨b, 0, none⟩)] w fun e w' => (∃ v, e = .returned v) ∧ (J n w' ∨ Jx w') := by
  refine callsIn_of_wp Tryz.func158 rfl trivial ?_ rfl
  simp only [Tryz.ntmps158, List.size_toArray, List.length_cons, List.length_nil, Nat.reduceAdd, Nat.reduceSub, Array.replicate_succ, Array.replicate_zero, List.push_toArray, List.append_toArray, List.nil_append, List.cons_append]
  have hcw := hc 0 w h0
  gi_wp2
  refine wpIn_loop (fun a w => ∃ (k : Nat) (v : Nat → Value), k ≤ n ∧ J k w ∧ a = { tmps := #[.func (.yield l) #[] #[], .pointer (some ⟨b, 0, none⟩), v 2, .int .i64 (n - 1 - k : Int), v 4, v 5, v 6, v 7, v 8, v 9, v 10, v 11, v 12, v 13, v 14, v 15, v 16, v 17, v 18], defers := [] })
    (fun a _ => m3 a) ?_ ?_
  · refine ⟨0, fun i => if i = 4 then .slice sa n cap else if i = 5 then .int .i64 n else if i = 6 then .int .i64 (n - 1) else undef, by omega, h0, ?_⟩
    simp
  rintro a w ⟨k, v, hk, hJ, rfl⟩
  have hcw := hc k w hJ
  by_cases hkn : k = n
  · subst hkn
    gi_wp2
    exact bodyPost_end (results_none rfl _ _ _) rfl ⟨⟨_, rfl⟩, .inl hJ⟩
  have hlt : k < n := by omega
  obtain ⟨fn, tmps, assign, body, hy, hR⟩ := hY k hlt w hJ
  have hs1 := hsa (by omega)
  subst hs1
  have hidx : (Instr.indexAt 45 (.slice (some ⟨bb, off, none⟩) n cap) (.int .i64 (n - 1 - k : Int))).run Tryz.prog w = .ok (.pointer (some ⟨bb, off + (n - 1 - k) * 2, none⟩)) w := by
    have := run_indexAt_slice (P := Tryz.prog) (t := 45) (e := 47) rfl rfl w .i64 (n - 1 - k : Int) bb off n cap (by omega)
    rw [this]
    have e : (n - 1 - k : Int).toNat = n - 1 - k := by omega
    rw [e]; rfl
  have hl := he k w hJ (n - 1 - k) (by omega)
  have hl1 := hl.1
  have hl2 : w.cell? ⟨bb, off + (n - 1 - k) * 2 + 1, none⟩ = _ := hl.2
  clear hl
  gi_wp2
  refine ⟨rfl, hR.mono ?_⟩
  rintro e W1 (⟨rfl, hJ1⟩ | ⟨rfl, hx1⟩)
  · gi_wp2
    refine ⟨⟨k + 1, fun i => if i = 2 then v 2 else if i = 4 then v 4 else if i = 5 then v 5 else if i = 6 then v 6 else if i = 8 then .bool true else if i = 7 ∨ i = 9 ∨ i = 12 ∨ i = 14 then .int .i64 (n - 1 - k) else if i = 10 then .int .i64 (n - 1 - k - 1) else
      if i = 11 then .func (.yield l) #[] #[] else if i = 13 then .slice (some ⟨bb, off, none⟩) n cap else if i = 15 then .pointer (some ⟨bb, off + (n - 1 - k) * 2, none⟩) else if i = 16 then .agg #[.int .i64 (x (n - 1 - k)), .int .i64 (y (n - 1 - k))] else if i = 17 then .bool true else .bool false, by omega, hJ1, ?_⟩, ?_⟩
    · have e : (n : Int) - 1 - (k + 1 : Nat) = n - 1 - k - 1 := by omega
      rw [e]
      rfl
    · show (_ : Int).toNat < (_ : Int).toNat
      omega
  · gi_wp2
    exact bodyPost_ret (results_none rfl _ _ _) rfl ⟨⟨_, rfl⟩, .inr hx1⟩
end Go.Eng
namespace Go.Eng
open Go Go.Proofs
abbrev Put := Int × Int
def encP (p : Put) : List Cell := [.i p.1, .i p.2]
abbrev putsS (l : List Put) : Cell := slC 2 encP l
def sBack1 : FSpec where
  G := OwnG 1 (List Put)
  args := fun _ => [.c (.ptr 0 0)]
  blks := fun γ => [(0, .row 45 [putsS γ.g])]
  pre := fun γ => γ.g.length ≤ 1000000
  res := fun _ => .any
  post := fun γ => [(0, .row 45 [putsS γ.g])]
  yields := fun γ => some (γ.g.length, fun k => [.c (.i (γ.g.length - 1 - k)), .agg (encP (γ.g.getD (γ.g.length - 1 - k) default))])
set_option maxRecDepth 100000 in
theorem back1_ok : Meets Tryz.prog 158 sBack1 where
  pn := fun γ j b h => by
    show j < 1
    by_cases e : 0 = j
    · omega
    · simp [sBack1, look, e] at h
  qn := fun γ j b h => by
    show j < 1
    by_cases e : 0 = j
    · omega
    · simp [sBack1, look, e] at h
  full := fun γ j h => by
    have : j = 0 := by have : j < 1 := h; omega
    subst this
    exact ⟨_, rfl⟩
  kp := fun γ j b h => ⟨b, h⟩
  body := ⟨_, Tryz.func158, rfl, rfl⟩
  run := fun γ h => nomatch h
  iter := fun ⟨l⟩ n item hy hpre F hs w vals hnone hargs hrep L J Jx hkeep hY h0 => by
    cases hy
    obtain ⟨h1, h2⟩ := hargs
    have h1 : vals.size = 1 := h1
    obtain ⟨b, hb, hv⟩ := h2 0 _ vals[0] rfl (Array.getElem?_eq_getElem (by omega))
    have hvals : vals = #[.pointer (some ⟨b, 0, none⟩)] := by
      refine Array.ext (by simpa using h1) fun i hi hi' => ?_
      have : i = 0 := by omega
      subst this
      exact hv
    subst hvals
    obtain ⟨x, cs, hx, hheap, hsz, hcs⟩ := row_of hrep (j := 0) rfl
    have : x = b := by rw [hb] at hx; simpa using hx.symm
    subst this
    obtain ⟨u, _, hcu, a, cap, hu, hcap, _, _, hel⟩ := hcs 0 _ rfl
    subst hu
    have hk : ∀ k W, J k W → Kept F w W := fun k W hJ => ⟨(hkeep k W hJ).1, (hkeep k W hJ).2⟩
    have hbF : ¬ F x := fun hF => hrep.apart x hF ⟨0, _, _, rfl, hb, rfl⟩
    have key : ∀ bb off, (0 < l.length → a = some ⟨bb, off, none⟩ ∧ ¬ F bb ∧ ∀ i, i < l.length → ∀ t, t < 2 → ∃ x, w.cell? ⟨bb, off + (i * 2 + t), none⟩ = some x ∧ Rel (Osum F hs (look (sBack1.blks ⟨l⟩))) w (slG encP l i t) noNames x) →
        CallsIn Fence.wide 0 Tryz.prog 158 #[.func (.yield L) #[] #[], .pointer (some ⟨x, 0, none⟩)] w fun e w' => (∃ v, e = .returned v) ∧ (J l.length w' ∨ Jx w') := by
      intro bb off h
      refine back_calls L x bb off cap a l.length (fun i => (l.getD i default).1) (fun i => (l.getD i default).2) hpre (fun hp => (h hp).1) J Jx (fun k W hJ => (hk k W hJ).cell hbF hcu) (fun k W hJ i hi => ?_) (fun k hk' W hJ => hY k hk' W hJ) w h0
      obtain ⟨_, h3, h4⟩ := h (by omega)
      obtain ⟨u0, h5, h6, _⟩ := h4 i hi 0 (by omega)
      obtain ⟨u1, h7, h8, _⟩ := h4 i hi 1 (by omega)
      subst h6; subst h8
      exact ⟨(hk k W hJ).cell h3 h5, (hk k W hJ).cell h3 h7⟩
    by_cases hp : 0 < l.length
    · obtain ⟨bb, off, h3, h4, _, h5⟩ := hel hp
      exact key bb off fun _ => ⟨h3, fun hF => h4 (.inl hF), h5⟩
    · exact key 0 0 fun h => (hp h).elim
end Go.Eng
namespace Go.Eng
open Go Go.Proofs
def sBack : FSpec := lentSpec 0 (List Put) (fun l => [.c (putsS l)]) (fun _ => []) (fun l => l.length ≤ 1000000) (fun _ => .c (.fn 158 [.ptr 0 0])) fun l => [.row 45 [putsS l]]
set_option maxHeartbeats 2000000 in
set_option maxRecDepth 100000 in
theorem back_ok : Meets Tryz.prog 154 sBack := by
  refine meets_lent 1 (gok_nil _) rfl [] (fn := Tryz.f154) rfl rfl rfl (by decide) (fun _ => rfl) (fun _ => rfl) (by decide) fun l hl => ?_
  repeat' (first | exact @id (emp _ = true) | (intro h; first | exact Bool.noConfusion h | (simp only [Qn] at h) | skip) | ((conv => whnf) <;> (first | exact trivial | apply Qa | apply And.intro | apply Qb | apply Qc | apply Qd | apply Qe | apply Qf | apply Qg | apply Qh | apply Qi | exact QA | exact QP | refine QG ?_ | apply Qj | apply Qk | apply Ql | apply Qm | apply Qo | apply Qp | apply Qw | apply Qv | apply Qu | apply Qt | apply Qs | apply Qr | apply Qq | apply Qx | apply wrapS | apply Qy | (with_reducible exact lenNil) | apply Eq.refl)) | ((with_reducible first | apply Y1 | apply Y2 | apply Y3 | show blkEq _ _ _); conv => whnf))
def newestN (l : List Put) (at' : Int) : Nat → Int × Bool
  | 0 => (0, false)
  | k + 1 => if (l.getD k default).1 = at' then ((l.getD k default).2, true) else newestN l at' k
def newestF (l : List Put) (at' : Int) : Int × Bool := newestN l at' l.length
theorem newest_at {l : List Put} {at' : Int} {k : Nat} (hk : k < l.length) : newestN l at' (l.length - k) = if (l.getD (l.length - 1 - k) default).1 = at' then ((l.getD (l.length - 1 - k) default).2, true) else newestN l at' (l.length - (k + 1)) := by
  have e : l.length - k = (l.length - 1 - k) + 1 := by omega
  have e' : l.length - (k + 1) = l.length - 1 - k := by omega
  rw [e, e', newestN]
def sNewest : FSpec := spec (List Put × Int) (fun (l, at') => [.c (putsS l), .i at']) (fun (l, _) => l.length ≤ 1000000) fun (l, at') => .tup [.c (.i (newestF l at').1), .c (.b (newestF l at').2)]
def B1 : List (Nat × FSpec) := [(154, sBack), (158, sBack1)]
theorem B1_ok : GOK Tryz.prog (tab B1) := gok_cons back_ok (gok_cons back1_ok (gok_nil _))
set_option maxHeartbeats 2000000 in
set_option maxRecDepth 100000 in
theorem newest_ok : Meets Tryz.prog 147 sNewest := by
  refine meets_plain B1_ok rfl [] (fn := Tryz.f147) rfl rfl rfl (by decide) fun ⟨l, at'⟩ hl => ?_
  repeat' (first | exact @id (emp _ = true) | (intro h; first | exact Bool.noConfusion h | (simp only [Qn] at h) | skip) | ((conv => whnf) <;> (first | exact trivial | apply Qa | apply And.intro | apply Qb | apply Qc | apply Qd | apply Qe | apply Qf | apply Qg | apply Qh | apply Qi | exact QA | exact QP | refine QG ?_ | apply Qj | apply Qk | apply Ql | apply Qm | apply Qo | apply Qp | apply Qw | apply Qv | apply Qu | apply Qt | apply Qs | apply Qr | apply Qq | apply Qx | apply wrapS | apply Qy | (with_reducible exact lenNil) | apply Eq.refl)) | ((with_reducible first | apply Y1 | apply Y2 | apply Y3 | show blkEq _ _ _); conv => whnf))
  · exact hl
  · exact hl
  apply RangeP.go Unit (fun k _ => newestF l at' = newestN l at' (l.length - k)) (fun _ => [(0, .row 3 [.i at']), (1, .row 3 [.i 0]), (2, .row 4 [.b false])]) (fun _ => 4)
  apply And.intro
  · refine CutE.at () ?_
    repeat' (first | exact @id (emp _ = true) | (intro h; first | exact Bool.noConfusion h | (simp only [Qn] at h) | skip) | ((conv => whnf) <;> (first | exact trivial | apply Qa | apply And.intro | apply Qb | apply Qc | apply Qd | apply Qe | apply Qf | apply Qg | apply Qh | apply Qi | exact QA | exact QP | refine QG ?_ | apply Qj | apply Qk | apply Ql | apply Qm | apply Qo | apply Qp | apply Qw | apply Qv | apply Qu | apply Qt | apply Qs | apply Qr | apply Qq | apply Qx | apply wrapS | apply Qy | (with_reducible exact lenNil) | apply Eq.refl)) | ((with_reducible first | apply Y1 | apply Y2 | apply Y3 | show blkEq _ _ _); conv => whnf))
  apply And.intro
  · intro k g hk hI
    have hs := newest_at (at' := at') hk
    repeat' (first | exact @id (emp _ = true) | (intro h; first | exact Bool.noConfusion h | (simp only [Qn] at h) | skip) | ((conv => whnf) <;> (first | exact trivial | apply Qa | apply And.intro | apply Qb | apply Qc | apply Qd | apply Qe | apply Qf | apply Qg | apply Qh | apply Qi | exact QA | exact QP | refine QG ?_ | apply Qj | apply Qk | apply Ql | apply Qm | apply Qo | apply Qp | apply Qw | apply Qv | apply Qu | apply Qt | apply Qs | apply Qr | apply Qq | apply Qx | apply wrapS | apply Qy | (with_reducible exact lenNil) | apply Eq.refl)) | ((with_reducible first | apply Y1 | apply Y2 | apply Y3 | show blkEq _ _ _); conv => whnf))
    all_goals (by_cases hc : (l.getD (l.length - 1 - k) default).1 = at')
    all_goals first | rw [if_pos hc] at hs | rw [if_neg hc] at hs
    all_goals have hn := hI.trans hs
    all_goals first
      | contradiction
      | exact congrArg Prod.fst hn
      | exact congrArg Prod.snd hn
      | exact hn
      | trace_state
  · intro g hI
    have hn : newestF l at' = (0, false) := hI.trans (by show newestN l at' (l.length - l.length) = _; rw [Nat.sub_self]; rfl)
    repeat' (first | exact @id (emp _ = true) | (intro h; first | exact Bool.noConfusion h | (simp only [Qn] at h) | skip) | ((conv => whnf) <;> (first | exact trivial | apply Qa | apply And.intro | apply Qb | apply Qc | apply Qd | apply Qe | apply Qf | apply Qg | apply Qh | apply Qi | exact QA | exact QP | refine QG ?_ | apply Qj | apply Qk | apply Ql | apply Qm | apply Qo | apply Qp | apply Qw | apply Qv | apply Qu | apply Qt | apply Qs | apply Qr | apply Qq | apply Qx | apply wrapS | apply Qy | (with_reducible exact lenNil) | apply Eq.refl)) | ((with_reducible first | apply Y1 | apply Y2 | apply Y3 | show blkEq _ _ _); conv => whnf))
    all_goals first
      | exact congrArg Prod.fst hn
      | exact congrArg Prod.snd hn
      | trace_state
end Go.Eng
namespace Go.Eng
open Go Go.Proofs
def pushF (b : List Put) (depth : Int) (p : Put) : List Put × Int :=
  if depth < 0 ∨ depth > 8 ∨ b.length > depth then ([], 1) else if b.length = depth then ([], 7) else (b ++ [p], 0)
def sPush : FSpec := spec (List Put × Int × Put) (fun (b, d, p) => [.c (putsS b), .i d, .agg (encP p)]) (fun (b, _, _) => b.length ≤ 1000000) (fun (b, d, p) => .tup [.c (putsS (pushF b d p).1), .c (.i (pushF b d p).2)])
theorem push_cases (b : List Put) (d : Int) (p : Put) : ((d < 0 ∨ d > 8 ∨ b.length > d) ∧ pushF b d p = ([], 1)) ∨ ((0 ≤ d ∧ d ≤ 8 ∧ b.length = d) ∧ pushF b d p = ([], 7)) ∨ ((0 ≤ d ∧ d ≤ 8 ∧ b.length < d) ∧ pushF b d p = (b ++ [p], 0)) := by
  by_cases h1 : d < 0 ∨ d > 8 ∨ b.length > d
  · exact .inl ⟨h1, if_pos h1⟩
  · by_cases h2 : (b.length : Int) = d
    · exact .inr (.inl ⟨by omega, by rw [pushF, if_neg h1, if_pos h2]⟩)
    · exact .inr (.inr ⟨by omega, by rw [pushF, if_neg h1, if_neg h2]⟩)
set_option maxHeartbeats 2000000 in
set_option maxRecDepth 100000 in
theorem push_ok : Meets Tryz.prog 148 sPush := by
  refine meets_plain (gok_nil _) rfl [] (fn := Tryz.f148) rfl rfl rfl (by decide) fun ⟨b, d, p⟩ hl => ?_
  repeat' (first | exact @id (emp _ = true) | (intro h; first | exact Bool.noConfusion h | (simp only [Qn] at h) | skip) | ((conv => whnf) <;> (first | exact trivial | apply Qa | apply And.intro | apply Qb | apply Qc | apply Qd | apply Qe | apply Qf | apply Qg | apply Qh | apply Qi | exact QA | exact QP | refine QG ?_ | apply Qj | apply Qk | apply Ql | apply Qm | apply Qo | apply Qp | apply Qw | apply Qv | apply Qu | apply Qt | apply Qs | apply Qr | apply Qq | apply Qx | apply wrapS | apply Qy | (with_reducible exact lenNil) | apply Eq.refl)) | ((with_reducible first | apply Y1 | apply Y2 | apply Y3 | show blkEq _ _ _); conv => whnf))
  all_goals
    rcases push_cases b d p with ⟨hc, e⟩ | ⟨hc, e⟩ | ⟨hc, e⟩
    all_goals first
      | omega
      | (rw [e]; done)
      | (show ((b.length - 0 : Int).toNat + 1) * 16 ≤ _; omega)
      | (simp only [e] at *; simp at *; done)
      | (rw [e]; simp; done)
      | (rename_i i hi t
         rw [e] at hi ⊢
         show slG encP (b ++ [p]) i t = catG (b.length - 0 : Int).toNat (fun i t => slG encP b (0 + i) t) (litG 2 (encP p)) i t
         have e0 : (b.length - 0 : Int).toNat = b.length := by omega
         simp only [e0, Nat.zero_add]
         exact (slG_snoc (enc := encP) rfl rfl i (by simpa using hi) t h).symm)
      | trace_state
end Go.Eng
namespace Go.Eng
open Go Go.Proofs
def sClone : FSpec := spec (List Put) (fun l => [.c (putsS l)]) (fun l => l.length ≤ 1000000) fun l => .c (putsS l)
set_option maxHeartbeats 2000000 in
set_option maxRecDepth 100000 in
theorem clone_ok : Meets Tryz.prog 99 sClone := by
  refine meets_plain (gok_nil _) rfl [] (fn := Tryz.f99) rfl rfl rfl (by decide) fun l hl => ?_
  repeat' (first | exact @id (emp _ = true) | (intro h; first | exact Bool.noConfusion h | (simp only [Qn] at h) | skip) | ((conv => whnf) <;> (first | exact trivial | apply Qa | apply And.intro | apply Qb | apply Qc | apply Qd | apply Qe | apply Qf | apply Qg | apply Qh | apply Qi | exact QA | exact QP | refine QG ?_ | apply Qj | apply Qk | apply Ql | apply Qm | apply Qo | apply Qp | apply Qw | apply Qv | apply Qu | apply Qt | apply Qs | apply Qr | apply Qq | apply Qx | apply wrapS | apply Qy | (with_reducible exact lenNil) | apply Eq.refl)) | ((with_reducible first | apply Y1 | apply Y2 | apply Y3 | show blkEq _ _ _); conv => whnf))
  all_goals have hl : l.length ≤ 1000000 := hl
  all_goals try simp only at *
  all_goals first
    | omega
    | (show (0 + l.length) * 16 ≤ _; omega)
    | trace_state
def sPop : FSpec := spec (List Put) (fun l => [.c (putsS l)]) (fun l => l.length ≤ 1000000) fun l => .tup [.agg (encP (l.getD 0 default)), .c (putsS (l.drop 1)), .c (.i (if l.length = 0 then 8 else 0))]
def B2 : List (Nat × FSpec) := [(99, sClone)]
theorem B2_ok : GOK Tryz.prog (tab B2) := gok_cons clone_ok (gok_nil _)
set_option maxHeartbeats 2000000 in
set_option maxRecDepth 100000 in
theorem pop_ok : Meets Tryz.prog 49 sPop := by
  refine meets_plain B2_ok rfl [] (fn := Tryz.f49) rfl rfl rfl (by decide) fun l hl => ?_
  repeat' (first | exact @id (emp _ = true) | (intro h; first | exact Bool.noConfusion h | (simp only [Qn] at h) | skip) | ((conv => whnf) <;> (first | exact trivial | apply Qa | apply And.intro | apply Qb | apply Qc | apply Qd | apply Qe | apply Qf | apply Qg | apply Qh | apply Qi | exact QA | exact QP | refine QG ?_ | apply Qj | apply Qk | apply Ql | apply Qm | apply Qo | apply Qp | apply Qw | apply Qv | apply Qu | apply Qt | apply Qs | apply Qr | apply Qq | apply Qx | apply wrapS | apply Qy | (with_reducible exact lenNil) | apply Eq.refl)) | ((with_reducible first | apply Y1 | apply Y2 | apply Y3 | show blkEq _ _ _); conv => whnf))
  all_goals have hl : l.length ≤ 1000000 := hl
  all_goals try simp only at *
  all_goals first
    | omega
    | (simp only [List.length_drop]; omega)
    | (have e : l = [] := List.eq_nil_of_length_eq_zero (by omega)
       subst e
       first | rfl | (rename_i i hi t; exact (Nat.not_lt_zero _ hi).elim))
    | (have e : ¬ l.length = 0 := by omega
       simp [e]; done)
    | (show (List.drop 1 l).length ≤ 1000000; rw [List.length_drop]; omega)
    | exact (slG_drop l 1 _ _).symm
    | (rename_i i hi t; rw [List.length_drop] at hi; omega)
    | trace_state
end Go.Eng
namespace Go.Eng
open Go Go.Proofs
def sRNewest : FSpec := sNewest
set_option maxHeartbeats 2000000 in
set_option maxRecDepth 100000 in
theorem rnewest_ok : Meets Tryz.prog 129 sRNewest := by
  refine meets_plain (gok_nil _) rfl [] (fn := Tryz.f129) rfl rfl rfl (by decide) fun ⟨l, at'⟩ hl => ?_
  have hl : l.length ≤ 1000000 := hl
  repeat' (first | exact @id (emp _ = true) | (intro h; first | exact Bool.noConfusion h | (simp only [Qn] at h) | skip) | ((conv => whnf) <;> (first | exact trivial | apply Qa | apply And.intro | apply Qb | apply Qc | apply Qd | apply Qe | apply Qf | apply Qg | apply Qh | apply Qi | exact QA | exact QP | refine QG ?_ | apply Qj | apply Qk | apply Ql | apply Qm | apply Qo | apply Qp | apply Qw | apply Qv | apply Qu | apply Qt | apply Qs | apply Qr | apply Qq | apply Qx | apply wrapS | apply Qy | (with_reducible exact lenNil) | apply Eq.refl)) | ((with_reducible first | apply Y1 | apply Y2 | apply Y3 | show blkEq _ _ _); conv => whnf))
  apply LoopP.up (G := Nat) (fun k => k ≤ l.length) [1, 6, 7, 10, 11, 12] (fun k => [(12, .i k), (6, .i (newestN l at' k).1), (7, .b (newestN l at' k).2)]) (fun _ => []) 0 fun k => l.length - k
  apply And.intro
  · refine CutE.at 0 ?_
    repeat' (first | exact @id (emp _ = true) | (intro h; first | exact Bool.noConfusion h | (simp only [Qn] at h) | skip) | ((conv => whnf) <;> (first | exact trivial | apply Qa | apply And.intro | apply Qb | apply Qc | apply Qd | apply Qe | apply Qf | apply Qg | apply Qh | apply Qi | exact QA | exact QP | refine QG ?_ | apply Qj | apply Qk | apply Ql | apply Qm | apply Qo | apply Qp | apply Qw | apply Qv | apply Qu | apply Qt | apply Qs | apply Qr | apply Qq | apply Qx | apply wrapS | apply Qy | (with_reducible exact lenNil) | apply Eq.refl)) | ((with_reducible first | apply Y1 | apply Y2 | apply Y3 | show blkEq _ _ _); conv => whnf))
    all_goals try simp only [Int.toNat_natCast, Int.toNat_zero, ge_iff_le, gt_iff_lt, Int.ofNat_le, Int.ofNat_lt, Int.ofNat_inj] at *
    all_goals first
      | omega
      | (dsimp only; omega)
      | assumption
      | exact Up.zero _
      | (show ((8 : Nat) : Int) * _ ≤ _; omega)
      | (show _ * (8 : Nat) ≤ _; omega)
      | (show _ * (16 : Nat) ≤ _; omega)
      | (show _ * (24 : Nat) ≤ _; omega)
      | trace_state
  intro k hk
  have e0 : (k : Int).toNat = k := by omega
  have hs : newestN l at' (k + 1) = if (l.getD k default).1 = at' then ((l.getD k default).2, true) else newestN l at' k := rfl
  have hE : ¬ (k : Int) < l.length → newestF l at' = newestN l at' k := fun h => by
    have : l.length = k := by omega
    rw [newestF, this]
  repeat' (first | exact @id (emp _ = true) | (intro h; first | exact Bool.noConfusion h | (simp only [Qn] at h) | skip) | ((conv => whnf) <;> (first | exact trivial | apply Qa | apply And.intro | refine CutE.at (k + 1) ?_ | apply Qb | apply Qc | apply Qd | apply Qe | apply Qf | apply Qg | apply Qh | apply Qi | exact QA | exact QP | refine QG ?_ | apply Qj | apply Qk | apply Ql | apply Qm | apply Qo | apply Qp | apply Qw | apply Qv | apply Qu | apply Qt | apply Qs | apply Qr | apply Qq | apply Qx | apply wrapS | apply Qy | (with_reducible exact lenNil) | apply Eq.refl)) | ((with_reducible first | apply Y1 | apply Y2 | apply Y3 | show blkEq _ _ _); conv => whnf))
  all_goals try simp only [e0] at *
  all_goals (by_cases hc : (l.getD k default).1 = at')
  all_goals first | rw [if_pos hc] at hs | rw [if_neg hc] at hs
  all_goals first
    | omega
    | contradiction
    | (rw [hs]; done)
    | exact wrap_i64 (by omega)
    | exact congrArg Prod.fst (hE ‹_›)
    | exact congrArg Prod.snd (hE ‹_›)
    | (exact (wrap_i64 (by omega)).symm)
    | trace_state
end Go.Eng
namespace Go.Eng
open Go Go.Proofs
def sRPush : FSpec := spec (List Put × Put) (fun (b, p) => [.c (putsS b), .agg (encP p)]) (fun (b, _) => b.length ≤ 1000000) fun (b, p) => .c (putsS (b ++ [p]))
set_option maxHeartbeats 2000000 in
set_option maxRecDepth 100000 in
theorem rpush_ok : Meets Tryz.prog 130 sRPush := by
  refine meets_plain (gok_nil _) rfl [] (fn := Tryz.f130) rfl rfl rfl (by decide) fun ⟨b, p⟩ hl => ?_
  repeat' (first | exact @id (emp _ = true) | (intro h; first | exact Bool.noConfusion h | (simp only [Qn] at h) | skip) | ((conv => whnf) <;> (first | exact trivial | apply Qa | apply And.intro | apply Qb | apply Qc | apply Qd | apply Qe | apply Qf | apply Qg | apply Qh | apply Qi | exact QA | exact QP | refine QG ?_ | apply Qj | apply Qk | apply Ql | apply Qm | apply Qo | apply Qp | apply Qw | apply Qv | apply Qu | apply Qt | apply Qs | apply Qr | apply Qq | apply Qx | apply wrapS | apply Qy | (with_reducible exact lenNil) | apply Eq.refl)) | ((with_reducible first | apply Y1 | apply Y2 | apply Y3 | show blkEq _ _ _); conv => whnf))
  all_goals have hl : b.length ≤ 1000000 := hl
  all_goals try simp only at *
  all_goals first
    | omega
    | (simp only [List.length_append, List.length_cons, List.length_nil]; omega)
    | (show _ * 16 ≤ _; omega)
    | (rename_i i hi t
       have e0 : ∀ i t, catG 0 (litG (Tryz.prog.types[47].size) []) (slG encP b) i t = slG encP b i t := fun i t => by simp [catG]
       have e1 : catG 0 (litG (Tryz.prog.types[47].size) []) (slG encP b) = slG encP b := funext fun i => funext fun t => e0 i t
       rw [e1, Nat.zero_add]
       exact (slG_snoc (enc := encP) rfl rfl i (by simpa using hi) t h).symm)
    | trace_state
end Go.Eng
namespace Go.Eng
open Go Go.Proofs
theorem eq_of_upG {α : Type} [Inhabited α] {a b : List α} (h : a.length = b.length) {k : Nat} (hk : a.length ≤ k) (hu : Up k fun i => a.getD i default = b.getD i default) : a = b := by
  apply List.ext_getElem h
  intro i h1 h2
  have := hu.get i (by omega)
  simpa [List.getD_eq_getElem?_getD, List.getElem?_eq_getElem h1, List.getElem?_eq_getElem h2] using this
def sRSame : FSpec := spec (List Put × List Put) (fun (a, b) => [.c (putsS a), .c (putsS b)]) (fun (a, b) => a.length ≤ 1000000 ∧ b.length ≤ 1000000) fun (a, b) => .b (decide (a = b))
set_option maxHeartbeats 2000000 in
set_option maxRecDepth 100000 in
theorem rsame_ok : Meets Tryz.prog 98 sRSame := by
  refine meets_plain (gok_nil _) rfl [] (fn := Tryz.f98) rfl rfl rfl (by decide) fun ⟨a, b⟩ ⟨ha, hb⟩ => ?_
  repeat' (first | exact @id (emp _ = true) | (intro h; first | exact Bool.noConfusion h | (simp only [Qn] at h) | skip) | ((conv => whnf) <;> (first | exact trivial | apply Qa | apply And.intro | apply Qb | apply Qc | apply Qd | apply Qe | apply Qf | apply Qg | apply Qh | apply Qi | exact QA | exact QP | refine QG ?_ | apply Qj | apply Qk | apply Ql | apply Qm | apply Qo | apply Qp | apply Qw | apply Qv | apply Qu | apply Qt | apply Qs | apply Qr | apply Qq | apply Qx | apply wrapS | apply Qy | (with_reducible exact lenNil) | apply Eq.refl)) | ((with_reducible first | apply Y1 | apply Y2 | apply Y3 | show blkEq _ _ _); conv => whnf))
  · rename_i h; exact decide_eq_false fun e => h (by rw [e])
  apply LoopP.up (G := Nat) (fun k => k ≤ a.length ∧ Up k fun i => a.getD i default = b.getD i default) [0, 1, 12, 13] (fun k => [(13, .i k)]) (fun _ => []) 0 (fun k => a.length - k)
  apply And.intro
  · refine CutE.at 0 ?_
    repeat' (first | exact @id (emp _ = true) | (intro h; first | exact Bool.noConfusion h | (simp only [Qn] at h) | skip) | ((conv => whnf) <;> (first | exact trivial | apply Qa | apply And.intro | apply Qb | apply Qc | apply Qd | apply Qe | apply Qf | apply Qg | apply Qh | apply Qi | exact QA | exact QP | refine QG ?_ | apply Qj | apply Qk | apply Ql | apply Qm | apply Qo | apply Qp | apply Qw | apply Qv | apply Qu | apply Qt | apply Qs | apply Qr | apply Qq | apply Qx | apply wrapS | apply Qy | (with_reducible exact lenNil) | apply Eq.refl)) | ((with_reducible first | apply Y1 | apply Y2 | apply Y3 | show blkEq _ _ _); conv => whnf))
    all_goals try simp only [Int.toNat_natCast, Int.toNat_zero, ge_iff_le, gt_iff_lt, Int.ofNat_le, Int.ofNat_lt, Int.ofNat_inj] at *
    all_goals first
      | omega
      | (dsimp only; omega)
      | assumption
      | exact Up.zero _
      | (show ((8 : Nat) : Int) * _ ≤ _; omega)
      | (show _ * (8 : Nat) ≤ _; omega)
      | (show _ * (16 : Nat) ≤ _; omega)
      | (show _ * (24 : Nat) ≤ _; omega)
      | trace_state
  · intro k ⟨hk, hu⟩
    have e0 : (k : Int).toNat = k := by omega
    repeat' (first | exact @id (emp _ = true) | (intro h; first | exact Bool.noConfusion h | (simp only [Qn] at h) | skip) | ((conv => whnf) <;> (first | exact trivial | apply Qa | apply And.intro | apply Qb | apply Qc | apply Qd | apply Qe | apply Qf | apply Qg | apply Qh | apply Qi | exact QA | exact QP | refine QG ?_ | apply Qj | apply Qk | apply Ql | apply Qm | apply Qo | apply Qp | apply Qw | apply Qv | apply Qu | apply Qt | apply Qs | apply Qr | apply Qq | apply Qx | apply wrapS | apply Qy | (with_reducible exact lenNil) | apply Eq.refl)) | ((with_reducible first | apply Y1 | apply Y2 | apply Y3 | show blkEq _ _ _); conv => whnf))
    all_goals try simp only [e0] at *
    all_goals first
      | omega
      | exact decide_eq_false fun e => ‹¬_› (by rw [e]; exact ⟨rfl, rfl⟩)
      | exact decide_eq_true (eq_of_upG (by omega) (k := k) (by omega) hu)
      | exact hu.succ (Prod.ext ‹_ ∧ _›.1 ‹_ ∧ _›.2)
      | trace_state
def restT (l : List Put) (k : Nat) : List Put := (l.take k).drop 1
theorem restT_len {l : List Put} {k : Nat} (hk : k ≤ l.length) : (restT l k).length = k - 1 := by simp [restT]; omega
theorem restT_snoc {l : List Put} {k : Nat} (h0 : 0 < k) (hk : k < l.length) : restT l (k + 1) = restT l k ++ [l.getD k default] := by
  unfold restT
  rw [take_getD (d := default) hk, List.drop_append_of_le_length (by simp; omega)]
theorem restT_end {l : List Put} {k : Nat} (hk : ¬ k < l.length) : restT l k = l.drop 1 := by
  unfold restT
  rw [List.take_of_length_le (by omega)]
def sRRest : FSpec := spec (List Put) (fun l => [.c (putsS l)]) (fun l => l.length ≤ 1000000) fun l => .c (putsS (l.drop 1))
set_option maxHeartbeats 2000000 in
set_option maxRecDepth 100000 in
theorem rrest_ok : Meets Tryz.prog 113 sRRest := by
  refine meets_plain (gok_nil _) rfl [] (fn := Tryz.f113) rfl rfl rfl (by decide) fun l hl => ?_
  have hl : l.length ≤ 1000000 := hl
  repeat' (first | exact @id (emp _ = true) | (intro h; first | exact Bool.noConfusion h | (simp only [Qn] at h) | skip) | ((conv => whnf) <;> (first | exact trivial | apply Qa | apply And.intro | apply Qb | apply Qc | apply Qd | apply Qe | apply Qf | apply Qg | apply Qh | apply Qi | exact QA | exact QP | refine QG ?_ | apply Qj | apply Qk | apply Ql | apply Qm | apply Qo | apply Qp | apply Qw | apply Qv | apply Qu | apply Qt | apply Qs | apply Qr | apply Qq | apply Qx | apply wrapS | apply Qy | (with_reducible exact lenNil) | apply Eq.refl)) | ((with_reducible first | apply Y1 | apply Y2 | apply Y3 | show blkEq _ _ _); conv => whnf))
  apply LoopP.up (G := Nat) (fun k => k ≤ l.length) [3, 7, 8, 9] (fun k => [(9, .i k)]) (fun k => [(0, .slc 47 2 (restT l k).length (slG encP (restT l k)))]) 1 (fun k => l.length - k)
  apply And.intro
  · refine CutE.at 0 ?_
    repeat' (first | exact @id (emp _ = true) | (intro h; first | exact Bool.noConfusion h | (simp only [Qn] at h) | skip) | ((conv => whnf) <;> (first | exact trivial | apply Qa | apply And.intro | apply Qb | apply Qc | apply Qd | apply Qe | apply Qf | apply Qg | apply Qh | apply Qi | exact QA | exact QP | refine QG ?_ | apply Qj | apply Qk | apply Ql | apply Qm | apply Qo | apply Qp | apply Qw | apply Qv | apply Qu | apply Qt | apply Qs | apply Qr | apply Qq | apply Qx | apply wrapS | apply Qy | (with_reducible exact lenNil) | apply Eq.refl)) | ((with_reducible first | apply Y1 | apply Y2 | apply Y3 | show blkEq _ _ _); conv => whnf))
    all_goals first
      | omega
      | (simp [restT] at *; done)
      | trace_state
  · intro k hk
    have e0 : (k : Int).toNat = k := by omega
    have h1 := restT_len hk
    repeat' (first | exact @id (emp _ = true) | (intro h; first | exact Bool.noConfusion h | (simp only [Qn] at h) | skip) | ((conv => whnf) <;> (first | exact trivial | apply Qa | apply And.intro | refine CutE.at (k + 1) ?_ | apply Qb | apply Qc | apply Qd | apply Qe | apply Qf | apply Qg | apply Qh | apply Qi | exact QA | exact QP | refine QG ?_ | apply Qj | apply Qk | apply Ql | apply Qm | apply Qo | apply Qp | apply Qw | apply Qv | apply Qu | apply Qt | apply Qs | apply Qr | apply Qq | apply Qx | apply wrapS | apply Qy | (with_reducible exact lenNil) | apply Eq.refl)) | ((with_reducible first | apply Y1 | apply Y2 | apply Y3 | show blkEq _ _ _); conv => whnf))
    all_goals try simp only [e0] at *
    all_goals try (have h2 := restT_len (l := l) (k := k + 1) (by omega))
    all_goals first
      | omega
      | (show (_ + 1) * 16 ≤ _; omega)
      | exact (wrap_i64 (by omega)).symm
      | (rename_i i hi t; rw [restT_snoc (by omega) (by omega)]; exact (slG_snoc (enc := encP) (k := 2) rfl rfl i (by omega) t h).symm)
      | (rename_i i hi t; omega)
      | (rw [restT_end (by omega)])
      | trace_state
end Go.Eng
namespace Go.Eng
open Go Go.Proofs
/-- All puts stored, from the i-th on. -/
def foldG (ts : List Int) : List Int → List Put → Nat → (List Int × List Int) × Int × Int
  | ws, [], _ => ((ws, ts), 0, 0)
  | ws, p :: r, i => if useF ws ts p.1 = 0 then foldG ts (ws.set p.1.toNat p.2) r (i + 1) else (([], []), i, useF ws ts p.1)
theorem foldG_go {ts ws : List Int} {b : List Put} {k : Nat} (hk : k < b.length) (hu : useF ws ts (b.getD k default).1 = 0) :
    foldG ts ws (b.drop k) k = foldG ts (ws.set (b.getD k default).1.toNat (b.getD k default).2) (b.drop (k + 1)) (k + 1) := by
  rw [drop_getD (d := default) hk, foldG, if_pos hu]
theorem foldG_no {ts ws : List Int} {b : List Put} {k : Nat} (hk : k < b.length) (hu : useF ws ts (b.getD k default).1 ≠ 0) :
    foldG ts ws (b.drop k) k = (([], []), (k : Int), useF ws ts (b.getD k default).1) := by
  rw [drop_getD (d := default) hk, foldG, if_neg hu]
theorem foldG_end {ts ws : List Int} {b : List Put} {k : Nat} (hk : ¬ k < b.length) : foldG ts ws (b.drop k) k = ((ws, ts), 0, 0) := by
  rw [List.drop_eq_nil_of_le (by omega)]; rfl
/-- The state of a fold behind k puts. -/
structure FoldI (ts : List Int) (b : List Put) (w0 : List Int) (s : Nat × List Int) : Prop where
  hk : s.1 ≤ b.length
  hm : memR s.2 ts = true
  hl : s.2.length = w0.length
  run : foldG ts w0 b 0 = foldG ts s.2 (b.drop s.1) s.1
theorem FoldI.start {ts : List Int} {b : List Put} {w0 : List Int} (h : memR w0 ts = true) : FoldI ts b w0 (0, w0) := ⟨Nat.zero_le _, h, rfl, by simp⟩
theorem FoldI.step {ts : List Int} {b : List Put} {w0 ws : List Int} {k : Nat} (h : FoldI ts b w0 (k, ws)) (hk : k < b.length) (hu : useF ws ts (b.getD k default).1 = 0) :
    FoldI ts b w0 (k + 1, ws.set (b.getD k default).1.toNat (b.getD k default).2) :=
  ⟨hk, memR_set hu, by have := h.hl; simpa using this, by rw [h.run]; exact foldG_go hk hu⟩
theorem FoldI.stop {ts : List Int} {b : List Put} {w0 ws : List Int} {k : Nat} (h : FoldI ts b w0 (k, ws)) (hk : k < b.length) (hu : useF ws ts (b.getD k default).1 ≠ 0) :
    foldG ts w0 b 0 = (([], []), (k : Int), useF ws ts (b.getD k default).1) := by rw [h.run]; exact foldG_no hk hu
theorem FoldI.done {ts : List Int} {b : List Put} {w0 ws : List Int} {k : Nat} (h : FoldI ts b w0 (k, ws)) (hk : ¬ k < b.length) : foldG ts w0 b 0 = ((ws, ts), 0, 0) := by rw [h.run]; exact foldG_end hk
end Go.Eng
namespace Go.Eng
open Go Go.Proofs
def B3 : List (Nat × FSpec) := (51, sStore) :: (65, sRStore) :: M3
end Go.Eng
namespace Go.Eng
open Go Go.Proofs
end Go.Eng
