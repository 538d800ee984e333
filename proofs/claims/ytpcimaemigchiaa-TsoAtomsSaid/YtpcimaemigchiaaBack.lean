/- slices.Backward's iterator. -/
import Derived.Test.YtpcimaemigchiaaEngC
import Derived.Test.YtpcimaemigchiaaProg
set_option linter.unusedVariables false
set_option linter.unusedSimpArgs false
namespace Go.Eng
open Go Go.Proofs Go.RowKit

set_option maxRecDepth 100000 in
theorem load_put {w : World} {bb o : Nat} {x y : Int} (h1 : w.cell? ⟨bb, o, none⟩ = some (.int .i64 x)) (h2 : w.cell? ⟨bb, o + 1, none⟩ = some (.int .i64 y)) :
    (Instr.loadAt 24 (.pointer (some ⟨bb, o, none⟩))).run Try.prog w = .ok (.agg #[.int .i64 x, .int .i64 y]) w := by
  obtain ⟨v, hv, arr, h3, h4, h5⟩ := load_agg (P := Try.prog) (O := fun _ => False) (hs := noNames) (w := w) (t := 24) rfl rfl bb o [.i x, .i y] rfl (fun j c hc => by
    match j, hc with
    | 0, hc => cases hc; exact ⟨_, h1, rfl, rfl⟩
    | 1, hc => cases hc; exact ⟨_, h2, rfl, rfl⟩)
  subst h3
  rw [hv]
  have e : arr = #[.int .i64 x, .int .i64 y] := by
    refine Array.ext (by simpa using h4) fun i hi hi' => ?_
    match i, hi' with
    | 0, _ => exact (h5 0 _ arr[0] rfl (Array.getElem?_eq_getElem hi)).1
    | 1, _ => exact (h5 1 _ arr[1] rfl (Array.getElem?_eq_getElem hi)).1
  rw [e]

def m3 (a : Act) : Nat := match a.tmps[3]? with
  | some (Value.int _ i) => (i + 1).toNat
  | _ => 0
set_option maxHeartbeats 2000000 in
set_option maxRecDepth 100000 in
theorem back_calls (l b bb off cap : Nat) (sa : Option Addr) (n : Nat) (x y : Nat → Int) (hn : n ≤ 1000000) (hsa : 0 < n → sa = some ⟨bb, off, none⟩) (J : Nat → World → Prop) (Jx : World → Prop)
    (hc : ∀ k W, J k W → W.cell? ⟨b, 0, none⟩ = some (.slice sa n cap))
    (he : ∀ k W, J k W → ∀ i, i < n → W.cell? ⟨bb, off + i * 2, none⟩ = some (.int .i64 (x i)) ∧ W.cell? ⟨bb, off + (i * 2 + 1), none⟩ = some (.int .i64 (y i)))
    (hY : ∀ k, k < n → ∀ W, J k W → YieldsAt Try.prog l #[.int .i64 (n - 1 - k : Int), .agg #[.int .i64 (x (n - 1 - k)), .int .i64 (y (n - 1 - k))]] W fun e W' => (e = .returned (.bool true) ∧ J (k + 1) W') ∨ (e = .returned (.bool false) ∧ Jx W'))
    (w : World) (h0 : J 0 w) :
    CallsIn Fence.wide 0 Try.prog 76 #[.func (.yield l) #[] #[], .pointer (some ⟨b, 0, none⟩)] w fun e w' => (∃ v, e = .returned v) ∧ (J n w' ∨ Jx w') := by
  refine callsIn_of_wp Try.func76 rfl trivial ?_ rfl
  simp only [Try.ntmps76, List.size_toArray, List.length_cons, List.length_nil, Nat.reduceAdd, Nat.reduceSub, Array.replicate_succ, Array.replicate_zero, List.push_toArray, List.append_toArray, List.nil_append, List.cons_append]
  have hcw := hc 0 w h0
  gi_wp2
  refine wpIn_loop (fun a w => ∃ (k : Nat) (v : Nat → Value), k ≤ n ∧ J k w ∧ a = { tmps := #[.func (.yield l) #[] #[], .pointer (some ⟨b, 0, none⟩), v 2, .int .i64 (n - 1 - k : Int), v 4, v 5, v 6, v 7, v 8, v 9, v 10, v 11, v 12, v 13, v 14, v 15, v 16, v 17, v 18], defers := [] })
    (fun a _ => m3 a) ?_ ?_
  · refine ⟨0, fun i => if i = 4 then .slice sa n cap else if i = 5 then .int .i64 n else if i = 6 then .int .i64 (n - 1) else undef, by omega, h0, ?_⟩
    simp
  rintro a w ⟨k, v, hk, hJ, rfl⟩
  have hcw := hc k w hJ
  by_cases hkn : k = n
  · subst hkn
    gi_wp2
    exact bodyPost_end (results_none rfl _ _ _) rfl ⟨⟨_, rfl⟩, .inl hJ⟩
  have hlt : k < n := by omega
  obtain ⟨fn, tmps, assign, body, hy, hR⟩ := hY k hlt w hJ
  have hs1 := hsa (by omega)
  subst hs1
  have hidx : (Instr.indexAt 22 (.slice (some ⟨bb, off, none⟩) n cap) (.int .i64 (n - 1 - k : Int))).run Try.prog w = .ok (.pointer (some ⟨bb, off + (n - 1 - k) * 2, none⟩)) w := by
    have := run_indexAt_slice (P := Try.prog) (t := 22) (e := 24) rfl rfl w .i64 (n - 1 - k : Int) bb off n cap (by omega)
    rw [this]
    have e : (n - 1 - k : Int).toNat = n - 1 - k := by omega
    rw [e]; rfl
  have hl := he k w hJ (n - 1 - k) (by omega)
  have hl1 := hl.1
  have hl2 : w.cell? ⟨bb, off + (n - 1 - k) * 2 + 1, none⟩ = _ := hl.2
  clear hl
  gi_wp2
  refine ⟨rfl, hR.mono ?_⟩
  rintro e W1 (⟨rfl, hJ1⟩ | ⟨rfl, hx1⟩)
  · gi_wp2
    refine ⟨⟨k + 1, fun i => if i = 2 then v 2 else if i = 4 then v 4 else if i = 5 then v 5 else if i = 6 then v 6 else if i = 8 then .bool true else if i = 7 ∨ i = 9 ∨ i = 12 ∨ i = 14 then .int .i64 (n - 1 - k) else if i = 10 then .int .i64 (n - 1 - k - 1) else
      if i = 11 then .func (.yield l) #[] #[] else if i = 13 then .slice (some ⟨bb, off, none⟩) n cap else if i = 15 then .pointer (some ⟨bb, off + (n - 1 - k) * 2, none⟩) else if i = 16 then .agg #[.int .i64 (x (n - 1 - k)), .int .i64 (y (n - 1 - k))] else if i = 17 then .bool true else .bool false, by omega, hJ1, ?_⟩, ?_⟩
    · have e : (n : Int) - 1 - (k + 1 : Nat) = n - 1 - k - 1 := by omega
      rw [e]
      rfl
    · show (_ : Int).toNat < (_ : Int).toNat
      omega
  · gi_wp2
    exact bodyPost_ret (results_none rfl _ _ _) rfl ⟨⟨_, rfl⟩, .inr hx1⟩
end Go.Eng
