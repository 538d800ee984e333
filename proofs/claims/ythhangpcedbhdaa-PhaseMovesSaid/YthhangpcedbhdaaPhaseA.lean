/- PhaseMoves, walked. -/
import Derived.Test.YthhangpcedbhdaaEngB
import Derived.Test.YthhangpcedbhdaaPhase
set_option linter.unusedVariables false
set_option linter.unusedSimpArgs false
namespace Go.Eng
open Go Go.Proofs

set_option maxHeartbeats 4000000 in
set_option maxRecDepth 100000 in
theorem moves_ok : Meets Try.prog 5 sLaw2 := by
  refine meets_plain T3_ok rfl [] (fn := Try.f5) rfl rfl rfl (by decide) fun ⟨w, g⟩ _ => ?_
  repeat' (first | (intro h; first | exact Bool.noConfusion h | skip) | ((conv => whnf); (first | exact True.intro | apply And.intro | apply EntP.go | apply CallP.go2 | apply CallP.go0 | apply CallP.go | apply Eq.refl)))
  all_goals (conv => whnf)
  all_goals (cases hw : isW w <;> cases hg : isG g <;> simp_all [enterF, leaveF, flipF, oldF])

end Go.Eng
