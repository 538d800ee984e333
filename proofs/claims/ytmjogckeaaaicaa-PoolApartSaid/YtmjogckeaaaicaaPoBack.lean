/- A pool's blocks: the iterator. -/
import Derived.Test.YtmjogckeaaaicaaEngC
import Derived.Test.YtmjogckeaaaicaaProg
set_option linter.unusedVariables false
set_option linter.unusedSimpArgs false
namespace Go.Eng
open Go Go.Proofs Go.RowKit

def m6 (a : Act) : Nat := match a.tmps[6]? with
  | some (Value.int _ i) => (17 - i).toNat
  | _ => 0
set_option maxHeartbeats 2000000 in
set_option maxRecDepth 100000 in
theorem blk_calls (l b : Nat) (sz ba : Int) (n : Nat) (hsz : 1 ≤ sz ∧ sz ≤ 8) (hba : 1 ≤ ba ∧ ba ≤ 160) (hn : n ≤ 16) (J : Nat → World → Prop) (Jx : World → Prop)
    (hc : ∀ k W, J k W → W.cell? ⟨b, 0, none⟩ = some (.int .i64 sz) ∧ W.cell? ⟨b, 1, none⟩ = some (.int .i64 ba) ∧ W.cell? ⟨b, 2, none⟩ = some (.int .i64 n))
    (hY : ∀ k, k < n → ∀ W, J k W → YieldsAt Try.prog l #[.int .i64 (ba + k * sz)] W fun e W' => (e = .returned (.bool true) ∧ J (k + 1) W') ∨ (e = .returned (.bool false) ∧ Jx W'))
    (w : World) (h0 : J 0 w) :
    CallsIn Fence.wide 0 Try.prog 59 #[.func (.yield l) #[] #[], .pointer (some ⟨b, 0, none⟩)] w fun e w' => (∃ v, e = .returned v) ∧ (J n w' ∨ Jx w') := by
  refine callsIn_of_wp Try.func59 rfl trivial ?_ rfl
  simp only [Try.ntmps59, List.size_toArray, List.length_cons, List.length_nil, Nat.reduceAdd, Nat.reduceSub, Array.replicate_succ, Array.replicate_zero, List.push_toArray, List.append_toArray, List.nil_append, List.cons_append]
  obtain ⟨hc0, hc1, hc2⟩ := hc 0 w h0
  gi_wp2
  refine wpIn_loop (fun a w => ∃ (k : Nat) (v : Nat → Value), k ≤ n ∧ J k w ∧ a = { tmps := #[.func (.yield l) #[] #[], .pointer (some ⟨b, 0, none⟩), v 2, v 3, v 4, .int .i64 n, .int .i64 k, v 7, v 8, v 9, v 10, v 11, v 12, v 13, v 14, v 15, v 16, v 17, v 18, v 19], defers := [] })
    (fun a _ => m6 a) ?_ ?_
  · refine ⟨0, fun i => if i = 4 then .pointer (some ⟨b, 2, none⟩) else undef, by omega, h0, ?_⟩
    simp
  rintro a w ⟨k, v, hk, hJ, rfl⟩
  obtain ⟨hc0, hc1, hc2⟩ := hc k w hJ
  by_cases hkn : k = n
  · subst hkn
    gi_wp2
    exact bodyPost_end (results_none rfl _ _ _) rfl ⟨⟨_, rfl⟩, .inl hJ⟩
  have hlt : k < n := by omega
  obtain ⟨fn, tmps, assign, body, hy, hR⟩ := hY k hlt w hJ
  have hm1 : (0 : Int) ≤ (k : Int) * sz := Int.mul_nonneg (by omega) (by omega)
  have hm2 : (k : Int) * sz ≤ 16 * 8 := Int.mul_le_mul (by omega) (by omega) (by omega) (by omega)
  have hw1 : wrap64 ((k : Int) * sz) = k * sz := IntWalk.wrap64_in _ ⟨by omega, by omega⟩
  have hw2 : wrap64 (ba + (k : Int) * sz) = ba + k * sz := IntWalk.wrap64_in _ ⟨by omega, by omega⟩
  gi_wp2
  refine ⟨rfl, hR.mono ?_⟩
  rintro e W1 (⟨rfl, hJ1⟩ | ⟨rfl, hx1⟩)
  · gi_wp2
    refine ⟨⟨k + 1, fun i => if i = 2 then v 2 else if i = 4 then v 4 else if i = 3 ∨ i = 8 ∨ i = 12 then .int .i64 k else if i = 7 ∨ i = 17 then .bool true else if i = 9 then .func (.yield l) #[] #[] else
      if i = 10 then .pointer (some ⟨b, 1, none⟩) else if i = 11 then .int .i64 ba else if i = 13 then .pointer (some ⟨b, 0, none⟩) else if i = 14 then .int .i64 sz else if i = 15 then .int .i64 (k * sz) else if i = 16 then .int .i64 (ba + k * sz) else if i = 18 then .bool false else .int .i64 (k + 1), by omega, hJ1, ?_⟩, ?_⟩
    · have e : ((k + 1 : Nat) : Int) = k + 1 := by omega
      rw [e]
      rfl
    · show (_ : Int).toNat < (_ : Int).toNat
      omega
  · gi_wp2
    exact bodyPost_ret (results_none rfl _ _ _) rfl ⟨⟨_, rfl⟩, .inr hx1⟩
end Go.Eng
