/- The functions of phase, and its statements. -/
import Derived.Test.YthhangpcedbhdaaEngC
import Derived.Test.YthhangpcedbhdaaProg
set_option linter.unusedVariables false
set_option linter.unusedSimpArgs false
namespace Go.Eng
open Go Go.Proofs

def isW (w : Int) : Bool := decide (0 ≤ w) && decide (w ≤ 127)
def isG (g : Int) : Bool := decide (g = 1) || decide (g = 65)
def enterF (w g : Int) : Int × Int := if isW w && isG g then (if w % 64 = 0 then (g, 0) else if w % 64 = 63 then (0, 13) else (w + 1, 0)) else (0, 1)
def leaveF (w : Int) : Int × Int := if isW w then (if w % 64 = 0 then (0, 8) else (w - 1, 0)) else (0, 1)
def flipF (g : Int) : Int × Int := if isG g then (66 - g, 0) else (0, 1)
def oldF (w g : Int) : Bool × Int := if isW w && isG g then (decide (w % 64 ≠ 0) && decide (w / 64 ≠ g / 64), 0) else (false, 1)

def r2 (p : Int × Int) : RV := .tup [.c (.i p.1), .c (.i p.2)]

theorem isW_iff {w : Int} : isW w = true ↔ 0 ≤ w ∧ w ≤ 127 := by simp [isW]
theorem isG_iff {w : Int} : isG w = true ↔ w = 1 ∨ w = 65 := by simp [isG]
theorem and63W {w : Int} (h : isW w = true) : Go.bits .and .i64 w 63 = w % 64 := by rw [isW_iff] at h; exact and63 ⟨by omega, by omega⟩
theorem wrapW1 {w : Int} (h : isW w = true) : IntKind.i64.wrap (w + 1) = w + 1 := by rw [isW_iff] at h; exact wrap_i64 ⟨by omega, by omega⟩
theorem wrapW2 {w : Int} (h : isW w = true) : IntKind.i64.wrap (w - 1) = w - 1 := by rw [isW_iff] at h; exact wrap_i64 ⟨by omega, by omega⟩
theorem wrapG {w : Int} (h : isG w = true) : IntKind.i64.wrap (66 - w) = 66 - w := by rw [isG_iff] at h; exact wrap_i64 ⟨by omega, by omega⟩
theorem xorWG {w g : Int} (hw : isW w = true) (hg : isG g = true) : (Go.bits .and .i64 (Go.bits .xor .i64 w g) 64 = 0) ↔ w / 64 = g / 64 := by
  rw [isW_iff] at hw
  rw [isG_iff] at hg
  have e : ((⟨w.toNat, by omega⟩ : Fin 128).val : Int) = w := by show ((w.toNat : Nat) : Int) = w; omega
  rcases hg with rfl | rfl
  · have := phase_xor1 ⟨w.toNat, by omega⟩
    rw [e] at this
    rw [this]
    show (if w.toNat < 64 then (0 : Int) else 64) = 0 ↔ _
    split <;> omega
  · have := phase_xor65 ⟨w.toNat, by omega⟩
    rw [e] at this
    rw [this]
    show (if w.toNat < 64 then (64 : Int) else 0) = 0 ↔ _
    split <;> omega

theorem xorB {w g : Int} (hw : isW w = true) (hg : isG g = true) : (Go.bits .and .i64 (Go.bits .xor .i64 w g) 64 != 0) = !decide (w / 64 = g / 64) := by
  have h := xorWG hw hg
  by_cases e : w / 64 = g / 64
  · rw [h.2 e]; simp [e]
  · have : Go.bits .and .i64 (Go.bits .xor .i64 w g) 64 ≠ 0 := fun h' => e (h.1 h')
    simp [e, this]
theorem tmodW {w : Int} (h : isW w = true) : w.tmod 64 = w % 64 := by rw [isW_iff] at h; exact Int.tmod_eq_emod_of_nonneg h.1
theorem tdivW {w : Int} (h : isW w = true) : IntKind.i64.wrap (w.tdiv 64) = w / 64 := by
  rw [isW_iff] at h
  rw [Int.tdiv_eq_ediv_of_nonneg h.1]
  exact wrap_i64 ⟨by omega, by omega⟩
theorem tdivG {w : Int} (h : isG w = true) : IntKind.i64.wrap (w.tdiv 64) = w / 64 := by
  rw [isG_iff] at h
  rcases h with rfl | rfl <;> decide

theorem xor_help (w g : Int) (h : 0 < w % 64) : (!decide (w % 64 = 0) && !decide (w / 64 = g / 64)) = (w / 64 != g / 64) := by
  have : ¬ w % 64 = 0 := by omega
  by_cases e : w / 64 = g / 64 <;> simp [e, this]

def sIsWord : FSpec := spec Int (fun x => [.i x]) (fun _ => True) fun x => .b (isW x)
def sIsGate : FSpec := spec Int (fun x => [.i x]) (fun _ => True) fun x => .b (isG x)
def sEnter : FSpec := spec (Int × Int) (fun (a, b) => [.i a, .i b]) (fun _ => True) fun (a, b) => r2 (enterF a b)
def sLeave : FSpec := spec Int (fun x => [.i x]) (fun _ => True) fun x => r2 (leaveF x)
def sFlip : FSpec := spec Int (fun x => [.i x]) (fun _ => True) fun x => r2 (flipF x)
def sOld : FSpec := spec (Int × Int) (fun (a, b) => [.i a, .i b]) (fun _ => True) fun (a, b) => .tup [.c (.v (.bool (oldF a b).1)), .c (.i (oldF a b).2)]
def sAlive : FSpec := spec Unit (fun _ => []) (fun _ => True) fun _ => .b true
def sREnter : FSpec := spec (Int × Int) (fun (a, b) => [.i a, .i b]) (fun (a, b) => isW a = true ∧ isG b = true) fun (a, b) => r2 (enterF a b)
def sRLeave : FSpec := spec Int (fun x => [.i x]) (fun x => isW x = true) fun x => r2 (leaveF x)
def sRFlip : FSpec := spec Int (fun x => [.i x]) (fun x => isG x = true) fun x => .i (66 - x)
def sROld : FSpec := spec (Int × Int) (fun (a, b) => [.i a, .i b]) (fun (a, b) => isW a = true ∧ isG b = true) fun (a, b) => .b (oldF a b).1

set_option maxHeartbeats 4000000 in
set_option maxRecDepth 100000 in
theorem isWord_ok : Meets Try.prog 39 sIsWord := by
  refine meets_plain (gok_nil _) rfl [] (fn := Try.f39) rfl rfl rfl (by decide) fun x _ => ?_
  repeat' (first | (intro h; first | exact Bool.noConfusion h | (guard_hyp h : true = true; clear h) | (guard_hyp h : false = false; clear h) | skip) | ((conv => whnf) <;> (first | exact True.intro | apply And.intro | apply EntP.go | apply CallP.go2 | apply CallP.go | apply Eq.refl)))
  all_goals (conv => whnf)
  all_goals simp_all [isW]
  all_goals omega

set_option maxHeartbeats 4000000 in
set_option maxRecDepth 100000 in
theorem isGate_ok : Meets Try.prog 40 sIsGate := by
  refine meets_plain (gok_nil _) rfl [] (fn := Try.f40) rfl rfl rfl (by decide) fun x _ => ?_
  repeat' (first | (intro h; first | exact Bool.noConfusion h | (guard_hyp h : true = true; clear h) | (guard_hyp h : false = false; clear h) | skip) | ((conv => whnf) <;> (first | exact True.intro | apply And.intro | apply EntP.go | apply CallP.go2 | apply CallP.go | apply Eq.refl)))
  all_goals (conv => whnf)
  all_goals simp_all [isG]
  all_goals rfl

def T1 : List (Nat × FSpec) := [(39, sIsWord), (40, sIsGate)]
theorem T1_ok : GOK Try.prog (tab T1) := gok_cons isWord_ok (gok_cons isGate_ok (gok_nil _))

set_option maxHeartbeats 4000000 in
set_option maxRecDepth 100000 in
theorem enter_ok : Meets Try.prog 13 sEnter := by
  refine meets_plain T1_ok rfl [] (fn := Try.f13) rfl rfl rfl (by decide) fun ⟨w, g⟩ _ => ?_
  repeat' (first | (intro h; first | exact Bool.noConfusion h | (guard_hyp h : true = true; clear h) | (guard_hyp h : false = false; clear h) | skip) | ((conv => whnf) <;> (first | exact True.intro | apply And.intro | apply EntP.go | apply CallP.go2 | apply CallP.go | apply Eq.refl)))
  all_goals (conv => whnf)
  all_goals simp only [Bool.not_eq_true', Bool.not_eq_false'] at *
  all_goals simp_all [enterF, and63W, wrapW1]

set_option maxHeartbeats 4000000 in
set_option maxRecDepth 100000 in
theorem leave_ok : Meets Try.prog 14 sLeave := by
  refine meets_plain T1_ok rfl [] (fn := Try.f14) rfl rfl rfl (by decide) fun w _ => ?_
  repeat' (first | (intro h; first | exact Bool.noConfusion h | (guard_hyp h : true = true; clear h) | (guard_hyp h : false = false; clear h) | skip) | ((conv => whnf) <;> (first | exact True.intro | apply And.intro | apply EntP.go | apply CallP.go2 | apply CallP.go | apply Eq.refl)))
  all_goals (conv => whnf)
  all_goals simp only [Bool.not_eq_true', Bool.not_eq_false'] at *
  all_goals simp_all [leaveF, and63W, wrapW2]

set_option maxHeartbeats 4000000 in
set_option maxRecDepth 100000 in
theorem flip_ok : Meets Try.prog 15 sFlip := by
  refine meets_plain T1_ok rfl [] (fn := Try.f15) rfl rfl rfl (by decide) fun w _ => ?_
  repeat' (first | (intro h; first | exact Bool.noConfusion h | (guard_hyp h : true = true; clear h) | (guard_hyp h : false = false; clear h) | skip) | ((conv => whnf) <;> (first | exact True.intro | apply And.intro | apply EntP.go | apply CallP.go2 | apply CallP.go | apply Eq.refl)))
  all_goals (conv => whnf)
  all_goals simp only [Bool.not_eq_true', Bool.not_eq_false'] at *
  all_goals simp_all [flipF, wrapG]

set_option maxHeartbeats 4000000 in
set_option maxRecDepth 100000 in
theorem old_ok : Meets Try.prog 21 sOld := by
  refine meets_plain T1_ok rfl [] (fn := Try.f21) rfl rfl rfl (by decide) fun ⟨w, g⟩ _ => ?_
  repeat' (first | (intro h; first | exact Bool.noConfusion h | (guard_hyp h : true = true; clear h) | (guard_hyp h : false = false; clear h) | skip) | ((conv => whnf) <;> (first | exact True.intro | apply And.intro | apply EntP.go | apply CallP.go2 | apply CallP.go | apply Eq.refl)))
  all_goals (conv => whnf)
  all_goals simp only [Bool.not_eq_true', Bool.not_eq_false'] at *
  all_goals simp_all [oldF, and63W, xorB]

def T2 : List (Nat × FSpec) := [(13, sEnter), (14, sLeave), (15, sFlip), (21, sOld), (39, sIsWord), (40, sIsGate)]
theorem T2_ok : GOK Try.prog (tab T2) := gok_cons enter_ok (gok_cons leave_ok (gok_cons flip_ok (gok_cons old_ok T1_ok)))

set_option maxHeartbeats 4000000 in
set_option maxRecDepth 100000 in
theorem alive_ok : Meets Try.prog 16 sAlive := by
  refine meets_plain T2_ok rfl [] (fn := Try.f16) rfl rfl rfl (by decide) fun _ _ => ?_
  repeat' (first | (intro h; first | exact Bool.noConfusion h | (guard_hyp h : true = true; clear h) | (guard_hyp h : false = false; clear h) | skip) | ((conv => whnf) <;> (first | exact True.intro | apply And.intro | apply EntP.go | apply CallP.go2 | apply CallP.go | apply Eq.refl)))
  all_goals (conv => whnf)
  all_goals simp_all [enterF, leaveF, isW, isG]

set_option maxHeartbeats 4000000 in
set_option maxRecDepth 100000 in
theorem rgate_ok : Meets Try.prog 22 sIsGate := by
  refine meets_plain (gok_nil _) rfl [] (fn := Try.f22) rfl rfl rfl (by decide) fun x _ => ?_
  repeat' (first | (intro h; first | exact Bool.noConfusion h | (guard_hyp h : true = true; clear h) | (guard_hyp h : false = false; clear h) | skip) | ((conv => whnf) <;> (first | exact True.intro | apply And.intro | apply EntP.go | apply CallP.go2 | apply CallP.go | apply Eq.refl)))
  all_goals (conv => whnf)
  all_goals simp_all [isG]
  all_goals rfl

set_option maxHeartbeats 4000000 in
set_option maxRecDepth 100000 in
theorem rword_ok : Meets Try.prog 24 sIsWord := by
  refine meets_plain (gok_nil _) rfl [] (fn := Try.f24) rfl rfl rfl (by decide) fun x _ => ?_
  repeat' (first | (intro h; first | exact Bool.noConfusion h | (guard_hyp h : true = true; clear h) | (guard_hyp h : false = false; clear h) | skip) | ((conv => whnf) <;> (first | exact True.intro | apply And.intro | apply EntP.go | apply CallP.go2 | apply CallP.go | apply Eq.refl)))
  all_goals (conv => whnf)
  all_goals simp_all [isW]
  all_goals omega

set_option maxHeartbeats 4000000 in
set_option maxRecDepth 100000 in
theorem rflip_ok : Meets Try.prog 23 sRFlip := by
  refine meets_plain (gok_nil _) rfl [] (fn := Try.f23) rfl rfl rfl (by decide) fun x hx => ?_
  repeat' (first | (intro h; first | exact Bool.noConfusion h | (guard_hyp h : true = true; clear h) | (guard_hyp h : false = false; clear h) | skip) | ((conv => whnf) <;> (first | exact True.intro | apply And.intro | apply EntP.go | apply CallP.go2 | apply CallP.go | apply Eq.refl)))
  all_goals (conv => whnf)
  all_goals have hx : isG x = true := hx
  all_goals simp_all [wrapG]

set_option maxHeartbeats 4000000 in
set_option maxRecDepth 100000 in
theorem rleave_ok : Meets Try.prog 25 sRLeave := by
  refine meets_plain (gok_nil _) rfl [] (fn := Try.f25) rfl rfl rfl (by decide) fun x hx => ?_
  repeat' (first | (intro h; first | exact Bool.noConfusion h | (guard_hyp h : true = true; clear h) | (guard_hyp h : false = false; clear h) | skip) | ((conv => whnf) <;> (first | exact True.intro | apply And.intro | apply EntP.go | apply CallP.go2 | apply CallP.go | apply Eq.refl)))
  all_goals (conv => whnf)
  all_goals have hx : isW x = true := hx
  all_goals simp_all [leaveF, tmodW, wrapW2]

set_option maxHeartbeats 4000000 in
set_option maxRecDepth 100000 in
theorem renter_ok : Meets Try.prog 26 sREnter := by
  refine meets_plain (gok_nil _) rfl [] (fn := Try.f26) rfl rfl rfl (by decide) fun ⟨w, g⟩ hx => ?_
  repeat' (first | (intro h; first | exact Bool.noConfusion h | (guard_hyp h : true = true; clear h) | (guard_hyp h : false = false; clear h) | skip) | ((conv => whnf) <;> (first | exact True.intro | apply And.intro | apply EntP.go | apply CallP.go2 | apply CallP.go | apply Eq.refl)))
  all_goals (conv => whnf)
  all_goals have hx : isW w = true ∧ isG g = true := hx
  all_goals simp_all [enterF, tmodW, wrapW1]

set_option maxHeartbeats 4000000 in
set_option maxRecDepth 100000 in
theorem rold_ok : Meets Try.prog 27 sROld := by
  refine meets_plain (gok_nil _) rfl [] (fn := Try.f27) rfl rfl rfl (by decide) fun ⟨w, g⟩ hx => ?_
  repeat' (first | (intro h; first | exact Bool.noConfusion h | (guard_hyp h : true = true; clear h) | (guard_hyp h : false = false; clear h) | skip) | ((conv => whnf) <;> (first | exact True.intro | apply And.intro | apply EntP.go | apply CallP.go2 | apply CallP.go | apply Eq.refl)))
  all_goals (conv => whnf)
  all_goals have hx : isW w = true ∧ isG g = true := hx
  all_goals simp_all [oldF, tmodW, tdivW, tdivG]
  · have := xor_help w g h
    exact this
  · omega

def T3 : List (Nat × FSpec) := [(16, sAlive), (22, sIsGate), (24, sIsWord), (23, sRFlip), (25, sRLeave), (26, sREnter), (27, sROld), (13, sEnter), (14, sLeave), (15, sFlip), (21, sOld), (39, sIsWord), (40, sIsGate)]
theorem T3_ok : GOK Try.prog (tab T3) := gok_cons alive_ok (gok_cons rgate_ok (gok_cons rword_ok (gok_cons rflip_ok (gok_cons rleave_ok (gok_cons renter_ok (gok_cons rold_ok T2_ok))))))

def sLaw2 : FSpec := spec (Int × Int) (fun (a, b) => [.i a, .i b]) (fun _ => True) fun _ => .b true
end Go.Eng
