/- Small tests: a text and a flag; two that store and then look. -/
import Derived.Test.YtgahcoccodhkmaaDoorLtPg
set_option linter.unusedVariables false
set_option linter.unusedSimpArgs false
namespace Go.Eng
def send (a b : Int) : List (List Mv) := [[(0, 0, a), (0, 1, b)], [(1, 1, 0), (1, 0, 0)]]
def cross (a b : Int) : List (List Mv) := [[(0, 0, a), (1, 1, 0)], [(0, 1, b), (1, 0, 0)]]
def passB (a b : Int) (d : Nat) : Bool :=
  !decide ([b, 0, a, b] ∈ outL d (send a b) (ini 2 2)) && decide ([b, a, a, b] ∈ outL d (send a b) (ini 2 2)) && decide ([0, a, a, b] ∈ outL d (send a b) (ini 2 2)) &&
    (decide ([0, 0, a, b] ∈ outL d (cross a b) (ini 2 2)) == decide (0 < d))
theorem pass_all : ((List.range 9).all fun a => (List.range 9).all fun b => (List.range 4).all fun d => passB (1 + (a : Nat)) (1 + (b : Nat)) d) = true := by decide +kernel
theorem pass_one {a b : Nat} {d : Nat} (ha : a < 9) (hb : b < 9) (hd : d < 4) : passB (1 + (a : Nat)) (1 + (b : Nat)) d = true :=
  List.all_eq_true.1 (List.all_eq_true.1 (List.all_eq_true.1 pass_all a (List.mem_range.2 ha)) b (List.mem_range.2 hb)) d (List.mem_range.2 hd)
end Go.Eng
