/- PhaseNests, walked. -/
import Derived.Test.YthhangpcedbhdaaEngB
import Derived.Test.YthhangpcedbhdaaPhase
set_option linter.unusedVariables false
set_option linter.unusedSimpArgs false
namespace Go.Eng
open Go Go.Proofs

abbrev NestG := Int × Int × Int × Int × Int

/-- A round's beginning: the place, the word, the gate, the depth, the gate that was. -/
structure NestI (n : Nat) (g : NestG) : Prop where
  hi : 0 ≤ g.1 ∧ g.1 ≤ n
  hg : isG g.2.2.1 = true
  hd : 0 ≤ g.2.2.2.1 ∧ g.2.2.2.1 ≤ 63
  hw : isW g.2.1 = true
  hm : g.2.1 % 64 = g.2.2.2.1
  h1 : 0 < g.2.2.2.1 → (g.2.2.2.2 = 1 ∨ g.2.2.2.2 = 65) ∧ g.2.1 = g.2.2.2.2 - 1 + g.2.2.2.1

def intsC (l : List Int) (n : Nat) : Cell := .ro n 1 false fun i _ => .i (l.getD i 0)

def nestSt (l : List Int) (n : Nat) : NestG → St
  | (i, w, gate, depth, inn) => ⟨[.any, .any, .b false, .i w, .i gate, .i depth, .i inn, .any, .any, .any, .any, .any, .any, .any, .any, .any, .any, .any, .any, .c (intsC l n), .i n, .i i, .any, .any, .any, .any, .any, .any, .any, .any, .any, .any, .any, .any, .any, .any, .any, .any, .any, .any, .any, .any, .any, .any, .any, .any, .any, .any, .any, .any, .any, .any, .any, .any, .any, .any, .any, .any, .any, .any, .any, .any, .any, .any, .any, .any, .any, .any, .any, .any, .any, .any, .any, .any, .any, .any, .any, .any, .any, .any, .any, .any, .any, .any, .any, .any, .any, .any, .any, .any, .any, .any, .any, .any, .any, .any, .any, .any, .any], [], 0⟩

def sNests : FSpec := spec (List Int) (fun l => [.c (intsC l l.length)]) (fun _ => True) fun _ => .b true

theorem min_nat (l : List Int) : ((if (200 : Int) < (l.length : Int) then (200 : Int) else (l.length : Int)) - 0).toNat = min l.length 200 := by split <;> omega

theorem enter_in {w g : Int} (hw : isW w = true) (hg : isG g = true) : (w % 64 = 0 → (enterF w g).1 = g ∧ (enterF w g).2 = 0) ∧ (w % 64 = 63 → (enterF w g).1 = 0 ∧ (enterF w g).2 = 13) ∧
    (w % 64 ≠ 0 ∧ w % 64 ≠ 63 → (enterF w g).1 = w + 1 ∧ (enterF w g).2 = 0) := by
  simp only [enterF, hw, hg, Bool.and_self, if_true]
  refine ⟨fun h => ?_, fun h => ?_, fun h => ?_⟩
  · simp [h]
  · simp [h]
  · simp [h]
theorem leave_in {w : Int} (hw : isW w = true) : (w % 64 = 0 → (leaveF w).1 = 0 ∧ (leaveF w).2 = 8) ∧ (w % 64 ≠ 0 → (leaveF w).1 = w - 1 ∧ (leaveF w).2 = 0) := by
  simp only [leaveF, hw, if_true]
  refine ⟨fun h => ?_, fun h => ?_⟩
  · simp [h]
  · simp [h]
theorem nn1 {a b : Int} (h : a ≤ b) : (b - a).NonNeg := h
theorem lt1 {a b : Nat} (h : a < b) : a.succ.le b := h
theorem NestI.of {n : Nat} {i w gate depth inn : Int} (h1 : 0 ≤ i ∧ i ≤ n) (h2 : gate = 1 ∨ gate = 65) (h3 : 0 ≤ depth ∧ depth ≤ 63) (h4 : 0 ≤ w ∧ w ≤ 127) (h5 : w % 64 = depth)
    (h6 : 0 < depth → (inn = 1 ∨ inn = 65) ∧ w = inn - 1 + depth) : NestI n (i, w, gate, depth, inn) := ⟨h1, isG_iff.2 h2, h3, isW_iff.2 h4, h5, h6⟩
theorem flip_in {g : Int} (hg : isG g = true) : (flipF g).1 = 66 - g ∧ (flipF g).2 = 0 := by
  simp only [flipF, hg, if_true]
  exact ⟨trivial, trivial⟩

set_option maxHeartbeats 4000000 in
set_option maxRecDepth 100000 in
theorem nests_ok : Meets Try.prog 3 sNests := by
  refine meets_plain T3_ok rfl [] (fn := Try.f3) rfl rfl rfl (by decide) fun l _ => ?_
  repeat' (first | (intro h; first | exact Bool.noConfusion h | (guard_hyp h : true = true; clear h) | (guard_hyp h : false = false; clear h) | skip) | ((conv => whnf) <;> (first | exact True.intro | apply And.intro | apply EntP.go | apply CallP.go2 | apply CallP.go0 | apply CallP.go | apply CutE.go5 | apply Eq.refl)))
  · exact Int.le_refl 0
  · show (0 : Int) ≤ if (200 : Int) < (l.length : Int) then (200 : Int) else (l.length : Int)
    split <;> omega
  · show (if (200 : Int) < (l.length : Int) then (200 : Int) else (l.length : Int)) ≤ l.length
    split <;> omega
  apply LoopP.go NestG (NestI (min l.length 200)) (nestSt l (min l.length 200)) (fun g => (min l.length 200 - g.1).toNat)
  conv => whnf
  apply And.intro
  · have h0 := min_nat l
    repeat' (first | (intro h; first | exact Bool.noConfusion h | (guard_hyp h : true = true; clear h) | (guard_hyp h : false = false; clear h) | skip) | ((conv => whnf) <;> (first | exact True.intro | apply And.intro | apply EntP.go | apply CallP.go2 | apply CallP.go0 | apply CallP.go | apply CutE.go5 | apply Eq.refl)))
    · exact h0.symm
    · simp
    · rw [h0]
    · exact ⟨by simp, by decide, by decide, by decide, by decide, by simp⟩
  · rintro ⟨i, w, gate, depth, inn⟩ ⟨hi, hg, hd, hw, hm, h1⟩
    simp only at hi hg hd hw hm h1
    have hmn : min l.length 200 ≤ 200 := Nat.min_le_right ..
    have hw2 := isW_iff.1 hw
    have hg2 := isG_iff.1 hg
    have e1 := enter_in hw hg
    have e2 := leave_in hw
    have e3 := flip_in hg
    have f1 : IntKind.i64.wrap (i + 1) = i + 1 := wrap_i64 ⟨by omega, by omega⟩
    have f2 : IntKind.i64.wrap (depth + 1) = depth + 1 := wrap_i64 ⟨by omega, by omega⟩
    have f3 : IntKind.i64.wrap (depth - 1) = depth - 1 := wrap_i64 ⟨by omega, by omega⟩
    have f8 : IntKind.i64.wrap (gate - 1) = gate - 1 := wrap_i64 ⟨by omega, by omega⟩
    have b1 : Go.bits .and .i64 w 63 = w % 64 := and63W hw
    rcases (by omega : depth = 0 ∨ depth = 63 ∨ (0 < depth ∧ depth < 63)) with hdp | hdp | hdp
    · have e1 := e1.1 (by omega)
      have e2 := e2.1 (by omega)
      have f4 : IntKind.i64.wrap (gate - 1 + (depth + 1)) = gate - 1 + (depth + 1) := wrap_i64 ⟨by omega, by omega⟩
      have b2 : Go.bits .and .i64 gate 63 = gate % 64 := and63 ⟨by omega, by omega⟩
      have b3 : Go.bits .and .i64 0 63 = 0 := and63 ⟨by omega, by omega⟩
      clear h1 hw hg
      conv => whnf
      repeat' (first | (intro h; first | exact Bool.noConfusion h | (guard_hyp h : true = true; clear h) | (guard_hyp h : false = false; clear h) | skip) | ((conv => whnf) <;> (first | exact True.intro | apply And.intro | apply EntP.go | apply CallP.go2 | apply CallP.go0 | apply CallP.go | apply CutE.go5 | apply Eq.refl)))
      all_goals (conv => whnf)
      all_goals try simp only [e1, e2, e3, f1, f2, f3, f8, f4, b1, b2, b3, decide_eq_true_eq, decide_eq_false_iff_not, beq_iff_eq, bne_iff_ne, beq_eq_false_iff_ne, bne_eq_false_iff_eq, ne_eq, not_true_eq_false, not_false_eq_true] at *
      all_goals try clear f1
      all_goals try clear f2
      all_goals try clear f3
      all_goals try clear f8
      all_goals try clear f4
      all_goals try clear f5
      all_goals try clear f6
      all_goals try clear f7
      all_goals try clear f9
      all_goals try clear b1
      all_goals try clear b2
      all_goals try clear b3
      all_goals try clear e1
      all_goals try clear e2
      all_goals try clear e3
      all_goals try generalize IntKind.i64.wrap ((l.getD i.toNat 0).tmod 3 + 3) = dd at *
      all_goals try generalize dd.tmod 3 = de at *
      all_goals first
        | omega
        | (exfalso; omega)
        | (apply NestI.of <;> omega)
        | (apply nn1; omega)
        | (apply lt1; omega)

    · have e1 := e1.2.1 (by omega)
      have e2 := e2.2 (by omega)
      have h1 := h1 (by omega)
      have f9 : IntKind.i64.wrap (inn - 1) = inn - 1 := wrap_i64 ⟨by omega, by omega⟩
      have f6 : IntKind.i64.wrap (inn - 1 + (depth - 1)) = inn - 1 + (depth - 1) := wrap_i64 ⟨by omega, by omega⟩
      have f7 : IntKind.i64.wrap (inn - 1 + depth) = inn - 1 + depth := wrap_i64 ⟨by omega, by omega⟩
      have b3 : Go.bits .and .i64 (w - 1) 63 = (w - 1) % 64 := and63 ⟨by omega, by omega⟩
      clear hw hg
      conv => whnf
      repeat' (first | (intro h; first | exact Bool.noConfusion h | (guard_hyp h : true = true; clear h) | (guard_hyp h : false = false; clear h) | skip) | ((conv => whnf) <;> (first | exact True.intro | apply And.intro | apply EntP.go | apply CallP.go2 | apply CallP.go0 | apply CallP.go | apply CutE.go5 | apply Eq.refl)))
      all_goals (conv => whnf)
      all_goals try simp only [e1, e2, e3, f1, f2, f3, f8, f9, f6, f7, b1, b3, decide_eq_true_eq, decide_eq_false_iff_not, beq_iff_eq, bne_iff_ne, beq_eq_false_iff_ne, bne_eq_false_iff_eq, ne_eq, not_true_eq_false, not_false_eq_true] at *
      all_goals try clear f1
      all_goals try clear f2
      all_goals try clear f3
      all_goals try clear f8
      all_goals try clear f4
      all_goals try clear f5
      all_goals try clear f6
      all_goals try clear f7
      all_goals try clear f9
      all_goals try clear b1
      all_goals try clear b2
      all_goals try clear b3
      all_goals try clear e1
      all_goals try clear e2
      all_goals try clear e3
      all_goals try generalize IntKind.i64.wrap ((l.getD i.toNat 0).tmod 3 + 3) = dd at *
      all_goals try generalize dd.tmod 3 = de at *
      all_goals first
        | omega
        | (exfalso; omega)
        | (apply NestI.of <;> omega)
        | (apply nn1; omega)
        | (apply lt1; omega)

    · have e1 := e1.2.2 (by omega)
      have e2 := e2.2 (by omega)
      have h1 := h1 (by omega)
      have f9 : IntKind.i64.wrap (inn - 1) = inn - 1 := wrap_i64 ⟨by omega, by omega⟩
      have f5 : IntKind.i64.wrap (inn - 1 + (depth + 1)) = inn - 1 + (depth + 1) := wrap_i64 ⟨by omega, by omega⟩
      have f6 : IntKind.i64.wrap (inn - 1 + (depth - 1)) = inn - 1 + (depth - 1) := wrap_i64 ⟨by omega, by omega⟩
      have f7 : IntKind.i64.wrap (inn - 1 + depth) = inn - 1 + depth := wrap_i64 ⟨by omega, by omega⟩
      have b2 : Go.bits .and .i64 (w + 1) 63 = (w + 1) % 64 := and63 ⟨by omega, by omega⟩
      have b3 : Go.bits .and .i64 (w - 1) 63 = (w - 1) % 64 := and63 ⟨by omega, by omega⟩
      clear hw hg
      conv => whnf
      repeat' (first | (intro h; first | exact Bool.noConfusion h | (guard_hyp h : true = true; clear h) | (guard_hyp h : false = false; clear h) | skip) | ((conv => whnf) <;> (first | exact True.intro | apply And.intro | apply EntP.go | apply CallP.go2 | apply CallP.go0 | apply CallP.go | apply CutE.go5 | apply Eq.refl)))
      all_goals (conv => whnf)
      all_goals try simp only [e1, e2, e3, f1, f2, f3, f8, f9, f5, f6, f7, b1, b2, b3, decide_eq_true_eq, decide_eq_false_iff_not, beq_iff_eq, bne_iff_ne, beq_eq_false_iff_ne, bne_eq_false_iff_eq, ne_eq, not_true_eq_false, not_false_eq_true] at *
      all_goals try clear f1
      all_goals try clear f2
      all_goals try clear f3
      all_goals try clear f8
      all_goals try clear f4
      all_goals try clear f5
      all_goals try clear f6
      all_goals try clear f7
      all_goals try clear f9
      all_goals try clear b1
      all_goals try clear b2
      all_goals try clear b3
      all_goals try clear e1
      all_goals try clear e2
      all_goals try clear e3
      all_goals try generalize IntKind.i64.wrap ((l.getD i.toNat 0).tmod 3 + 3) = dd at *
      all_goals try generalize dd.tmod 3 = de at *
      all_goals first
        | omega
        | (exfalso; omega)
        | (apply NestI.of <;> omega)
        | (apply nn1; omega)
        | (apply lt1; omega)

end Go.Eng
