/- A part of the walks, and of the machine that proves them (LtY). -/
import Derived.WalkKit
import Derived.Deep.LoopGhost
import Derived.Deep.Draws
import Derived.Lib.Walk
import Derived.Lib.Slices
import Derived.Test.YtgahcoccodhkmaaDoorLtX
set_option linter.unusedVariables false
set_option linter.unusedSimpArgs false
namespace Go.Eng
open Go Go.Proofs Go.RowKit Go.Lib
set_option maxRecDepth 100000 in
theorem nanC (x : Int) (w : World) : Calls Tryd.prog 74 #[.int .i64 x] w fun e w' => e = .returned (.bool false) ∧ w' = w := by
  go_enter Tryd.func74, Tryd.ntmps74
  go_wp2
  go_ret
  exact ⟨by simp, rfl⟩
set_option maxHeartbeats 1000000 in
set_option maxRecDepth 100000 in
theorem cmpC (x y : Int) (w : World) : Calls Tryd.prog 50 #[.int .i64 x, .int .i64 y] w fun e w' => e = .returned (.int .i64 (cmpI x y)) ∧ w' = w := by
  have h1 := fun x => nanC x w
  go_enter Tryd.func50, Tryd.ntmps50
  go_wp2_with (go_at_call 74; refine (h1 _).mono ?_; rintro e w' ⟨rfl, rfl⟩)
  all_goals (go_ret; refine ⟨?_, rfl⟩; unfold cmpI; (repeat' split) <;> first | rfl | (exfalso; omega))
set_option maxHeartbeats 2000000 in
set_option maxRecDepth 100000 in
theorem rowC (b1 o1 n c b2 o2 m d : Nat) (xs ys : List Int) (w : World) (hx : xs.length = n) (hy : ys.length = m) (hb1 : n ≤ 1000000) (hb2 : m ≤ 1000000) (hc1 : ∀ j, j < n → w.cell? ⟨b1, o1 + j, none⟩ = some (.int .i64 (xs.getD j 0))) (hc2 : ∀ j, j < m → w.cell? ⟨b2, o2 + j, none⟩ = some (.int .i64 (ys.getD j 0))) :
    Calls Tryd.prog 23 #[.slice (some ⟨b1, o1, none⟩) n c, .slice (some ⟨b2, o2, none⟩) m d] w fun e w' => e = .returned (.int .i64 (cmpL xs ys)) ∧ w' = w := by
  have hcc := fun x y => cmpC x y w
  go_enter Tryd.func23, Tryd.ntmps23
  go_wp2
  go_loopg [11] n (fun g s11 wr => ∃ k : Nat, k ≤ n ∧ n - k ≤ g ∧ s11 = .int .i64 k ∧ wr = w ∧ k ≤ m ∧ cmpL xs ys = cmpL (xs.drop k) (ys.drop k))
  case atStart => exact ⟨0, Nat.zero_le _, by omega, rfl, rfl, Nat.zero_le _, rfl⟩
  case round =>
    obtain ⟨k, hk, hg, rfl, rfl, hkm, heq⟩ := hrel
    by_cases hlt : k < n
    · by_cases hlt2 : k < m
      · have g1 := hc1 k hlt
        have g2 := hc2 k hlt2
        have hstep : cmpL (xs.drop k) (ys.drop k) = if cmpI (xs.getD k 0) (ys.getD k 0) = 0 then cmpL (xs.drop (k + 1)) (ys.drop (k + 1)) else cmpI (xs.getD k 0) (ys.getD k 0) := cmpL_drop (by omega) (by omega)
        generalize xs.getD k 0 = x at g1 hstep
        generalize ys.getD k 0 = y at g2 hstep
        have hcon := hcc x y
        generalize cmpI x y = r at hcon hstep
        clear hcc hc1 hc2
        by_cases hz : r = 0
        · subst hz
          rw [if_pos rfl] at hstep
          have A : Aside (cmpL xs ys = cmpL (xs.drop (k + 1)) (ys.drop (k + 1))) := heq.trans hstep
          clear heq hstep
          go_wp2_with (go_at_call 50; refine hcon.mono ?_; rintro e w' ⟨rfl, rfl⟩)
          go_roundg (n - (k + 1))
          case measure => omega
          case rel => exact ⟨k + 1, by omega, by omega, by go_num, rfl, by omega, A.out⟩
        · rw [if_neg hz] at hstep
          have A : Aside (cmpL xs ys = r) := heq.trans hstep
          clear heq hstep
          go_wp2_with (go_at_call 50; refine hcon.mono ?_; rintro e w' ⟨rfl, rfl⟩)
          go_ret
          exact ⟨by rw [A.out]; rfl, rfl⟩
      · have A : Aside (cmpL xs ys = 1) := heq.trans (cmpL_nilR (by omega) (by omega))
        obtain rfl : k = m := by omega
        have g1 := hc1 k hlt
        generalize xs.getD k 0 = x at g1
        clear heq hcc hc1 hc2
        go_wp2
        go_ret
        exact ⟨by rw [A.out]; rfl, rfl⟩
    · by_cases hlt2 : k < m
      · have A : Aside (cmpL xs ys = -1) := heq.trans (cmpL_nilL (by omega) (by omega))
        obtain rfl : k = n := by omega
        clear heq hcc hc1 hc2
        go_wp2
        go_ret
        exact ⟨by rw [A.out]; rfl, rfl⟩
      · have A : Aside (cmpL xs ys = 0) := heq.trans (cmpL_nilB (by omega) (by omega))
        obtain rfl : k = n := by omega
        clear heq hcc hc1 hc2
        go_wp2
        go_ret
        exact ⟨by rw [A.out]; rfl, rfl⟩
set_option maxHeartbeats 2000000 in
set_option maxRecDepth 100000 in
theorem rowC0 (a1 a2 : Option Addr) (c m d : Nat) (ys : List Int) (w : World) (hy : ys.length = m) (hb2 : m ≤ 1000000) :
    Calls Tryd.prog 23 #[.slice a1 0 c, .slice a2 m d] w fun e w' => e = .returned (.int .i64 (cmpL [] ys)) ∧ w' = w := by
  by_cases hm : 0 < m
  · have A : Aside (cmpL [] ys = -1) := by cases ys with
      | nil => simp at hy; omega
      | cons y l => rfl
    go_enter Tryd.func23, Tryd.ntmps23
    go_wp2
    go_loopg [11] 0 (fun g s11 wr => s11 = .int .i64 0 ∧ wr = w)
    case atStart => exact ⟨rfl, rfl⟩
    case round =>
      obtain ⟨rfl, rfl⟩ := hrel
      go_wp2
      go_ret
      exact ⟨by rw [A.out]; rfl, rfl⟩
  · have A : Aside (cmpL [] ys = 0) := by cases ys with
      | nil => rfl
      | cons y l => simp at hy; omega
    obtain rfl : m = 0 := by omega
    go_enter Tryd.func23, Tryd.ntmps23
    go_wp2
    go_loopg [11] 0 (fun g s11 wr => s11 = .int .i64 0 ∧ wr = w)
    case atStart => exact ⟨rfl, rfl⟩
    case round =>
      obtain ⟨rfl, rfl⟩ := hrel
      go_wp2
      go_ret
      exact ⟨by rw [A.out]; rfl, rfl⟩
set_option maxHeartbeats 2000000 in
set_option maxRecDepth 100000 in
theorem rowC1 (b1 o1 n c : Nat) (a2 : Option Addr) (d : Nat) (xs : List Int) (w : World) (hx : xs.length = n) (hb1 : n ≤ 1000000) (hn : 0 < n) (hc1 : ∀ j, j < n → w.cell? ⟨b1, o1 + j, none⟩ = some (.int .i64 (xs.getD j 0))) :
    Calls Tryd.prog 23 #[.slice (some ⟨b1, o1, none⟩) n c, .slice a2 0 d] w fun e w' => e = .returned (.int .i64 (cmpL xs [])) ∧ w' = w := by
  have A : Aside (cmpL xs [] = 1) := by cases xs with
    | nil => simp at hx; omega
    | cons y l => rfl
  have g1 := hc1 0 hn
  generalize xs.getD 0 0 = x at g1
  rw [Nat.add_zero] at g1
  have hni : (0 : Int) < (n : Int) := by omega
  clear hc1
  go_enter Tryd.func23, Tryd.ntmps23
  go_wp2
  go_loopg [11] 0 (fun g s11 wr => s11 = .int .i64 0 ∧ wr = w)
  case atStart => exact ⟨rfl, rfl⟩
  case round =>
    obtain ⟨rfl, rfl⟩ := hrel
    go_wp2
    go_ret
    exact ⟨by rw [A.out]; rfl, rfl⟩
end Go.Eng
