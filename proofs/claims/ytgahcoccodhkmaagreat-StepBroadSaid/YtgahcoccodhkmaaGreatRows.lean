/-
  No cell of these rows narrows 'for every input' (looked for: loops, veiled, ifaces, maps, wideKeys, modest, calm, conditions, laid).
  DERIVED. THE GIVEN ROWS OF THIS SEAT. 5 by the template 'for every input the law returns true; each argument reads behind the call as it read before'; 0 by the template 'total and deterministic' (their statements: YtgahcoccodhkmaaGreatTotals.lean).
  GIVEN WITH THE SEED: the statements are not yours to turn. If you find one false, say at which input.
  Laid BY PROGRAM, IN A SANDBOX (cutbox-rows.mjs): the forced cells as the released guide's own fill.sh prints them over the translation e560355288d09d35… (all of the seat's roots in one cut). By AI agents, Wed Nov 11 2026. No macro, syntax, notation, axiom, sorry.
-/
import Derived.Test.YtgahcoccodhkmaaGreatChecked
import GoSem.Claim
import GoSem.ClaimJoined
import GoSem.ClaimMapViews
import Derived.JoinedTies
import Derived.KernelRfl
namespace Go.Proofs.YtgahcoccodhkmaaGreat
/- THE CELL 'sum', in the pinned program and in every row, IS THE sha256 OF THE DUMP (.gsa) THAT YtgahcoccodhkmaaGreatProg.lean LOADS. Nothing in Lean hashes anything: it is a label: what it is worth is what the hold of that sum in a sandbox is worth. -/
noncomputable def Tryz.pinned : Pinned := { name := "ytgahcoccodhkmaagreat", sum := "e560355288d09d35a30eb8849b9d71cd95d81034c565076768ee1f14d2099c75", checked := Tryz.checked }
namespace Rows
def none {H : Type} : Left H := { results := [], args := [] }

/-- 'respitelaw08.StepApart': WHATEVER THE INPUT: true; the input reads as it did. -/
def stepApartSpec : ChangeSpec := { name := "stepApart", fn := fun _ => fun
  | [d1, d2, d3, d4, d5, d6, d7] => { results := [.lit (.bool true)], args := [d1, d2, d3, d4, d5, d6, d7] }
  | _ => none }
def stepApartRow : OpenClaim := { program := "ytgahcoccodhkmaagreat", sum := "e560355288d09d35a30eb8849b9d71cd95d81034c565076768ee1f14d2099c75", func := "respite/respitelaw08.StepApart", spec := "stepApart", unfollowed := true, recurses := true, apart := false }
def StepApartSaid : Prop := stepApartRow.holds Tryz.pinned (OpenSpec.ofChange stepApartSpec)

/-- ITS FALSE NEIGHBOUR: 'it returns false'. Refute it at one input. -/
def stepApartWrong : ChangeSpec := { name := "stepApart", fn := fun _ => fun
  | [d1, d2, d3, d4, d5, d6, d7] => { results := [.lit (.bool false)], args := [d1, d2, d3, d4, d5, d6, d7] }
  | _ => none }
def StepApartWrongFalsely : Prop := stepApartRow.holds Tryz.pinned (OpenSpec.ofChange stepApartWrong)

/-- 'respitelaw08.StepMakes': WHATEVER THE INPUT: true; the input reads as it did. -/
def stepMakesSpec : ChangeSpec := { name := "stepMakes", fn := fun _ => fun
  | [d1, d2, d3, d4, d5, d6] => { results := [.lit (.bool true)], args := [d1, d2, d3, d4, d5, d6] }
  | _ => none }
def stepMakesRow : OpenClaim := { program := "ytgahcoccodhkmaagreat", sum := "e560355288d09d35a30eb8849b9d71cd95d81034c565076768ee1f14d2099c75", func := "respite/respitelaw08.StepMakes", spec := "stepMakes", unfollowed := true, recurses := true, apart := false }
def StepMakesSaid : Prop := stepMakesRow.holds Tryz.pinned (OpenSpec.ofChange stepMakesSpec)

/-- ITS FALSE NEIGHBOUR: 'it returns false'. Refute it at one input. -/
def stepMakesWrong : ChangeSpec := { name := "stepMakes", fn := fun _ => fun
  | [d1, d2, d3, d4, d5, d6] => { results := [.lit (.bool false)], args := [d1, d2, d3, d4, d5, d6] }
  | _ => none }
def StepMakesWrongFalsely : Prop := stepMakesRow.holds Tryz.pinned (OpenSpec.ofChange stepMakesWrong)

/-- 'respitelaw08.StepStops': WHATEVER THE INPUT: true; the input reads as it did. -/
def stepStopsSpec : ChangeSpec := { name := "stepStops", fn := fun _ => fun
  | [d1, d2, d3, d4, d5, d6, d7] => { results := [.lit (.bool true)], args := [d1, d2, d3, d4, d5, d6, d7] }
  | _ => none }
def stepStopsRow : OpenClaim := { program := "ytgahcoccodhkmaagreat", sum := "e560355288d09d35a30eb8849b9d71cd95d81034c565076768ee1f14d2099c75", func := "respite/respitelaw08.StepStops", spec := "stepStops", unfollowed := true, recurses := true, apart := false }
def StepStopsSaid : Prop := stepStopsRow.holds Tryz.pinned (OpenSpec.ofChange stepStopsSpec)

/-- ITS FALSE NEIGHBOUR: 'it returns false'. Refute it at one input. -/
def stepStopsWrong : ChangeSpec := { name := "stepStops", fn := fun _ => fun
  | [d1, d2, d3, d4, d5, d6, d7] => { results := [.lit (.bool false)], args := [d1, d2, d3, d4, d5, d6, d7] }
  | _ => none }
def StepStopsWrongFalsely : Prop := stepStopsRow.holds Tryz.pinned (OpenSpec.ofChange stepStopsWrong)

/-- 'respitelaw08.StepBroad': WHATEVER THE INPUT: true; the input reads as it did. -/
def stepBroadSpec : ChangeSpec := { name := "stepBroad", fn := fun _ => fun
  | [d1, d2, d3, d4, d5, d6, d7, d8] => { results := [.lit (.bool true)], args := [d1, d2, d3, d4, d5, d6, d7, d8] }
  | _ => none }
def stepBroadRow : OpenClaim := { program := "ytgahcoccodhkmaagreat", sum := "e560355288d09d35a30eb8849b9d71cd95d81034c565076768ee1f14d2099c75", func := "respite/respitelaw08.StepBroad", spec := "stepBroad", unfollowed := true, recurses := true, apart := false }
def StepBroadSaid : Prop := stepBroadRow.holds Tryz.pinned (OpenSpec.ofChange stepBroadSpec)

/-- ITS FALSE NEIGHBOUR: 'it returns false'. Refute it at one input. -/
def stepBroadWrong : ChangeSpec := { name := "stepBroad", fn := fun _ => fun
  | [d1, d2, d3, d4, d5, d6, d7, d8] => { results := [.lit (.bool false)], args := [d1, d2, d3, d4, d5, d6, d7, d8] }
  | _ => none }
def StepBroadWrongFalsely : Prop := stepBroadRow.holds Tryz.pinned (OpenSpec.ofChange stepBroadWrong)

/-- 'respitelaw08.StepDoes': WHATEVER THE INPUT: true; the input reads as it did. -/
def stepDoesSpec : ChangeSpec := { name := "stepDoes", fn := fun _ => fun
  | [d1, d2, d3, d4, d5, d6, d7] => { results := [.lit (.bool true)], args := [d1, d2, d3, d4, d5, d6, d7] }
  | _ => none }
def stepDoesRow : OpenClaim := { program := "ytgahcoccodhkmaagreat", sum := "e560355288d09d35a30eb8849b9d71cd95d81034c565076768ee1f14d2099c75", func := "respite/respitelaw08.StepDoes", spec := "stepDoes", unfollowed := true, recurses := true, apart := false }
def StepDoesSaid : Prop := stepDoesRow.holds Tryz.pinned (OpenSpec.ofChange stepDoesSpec)

/-- ITS FALSE NEIGHBOUR: 'it returns false'. Refute it at one input. -/
def stepDoesWrong : ChangeSpec := { name := "stepDoes", fn := fun _ => fun
  | [d1, d2, d3, d4, d5, d6, d7] => { results := [.lit (.bool false)], args := [d1, d2, d3, d4, d5, d6, d7] }
  | _ => none }
def StepDoesWrongFalsely : Prop := stepDoesRow.holds Tryz.pinned (OpenSpec.ofChange stepDoesWrong)

/- THE SECOND FORM. 'bulk': how many values and letters a reading holds, each counted each time it is reached (what is shared counts as often as it is met; a slice's spare places count too). A statement '..UptoSaid' is the law's where the arguments, and the package variables that the reading takes, are together of bulk at most 1048576: NARROWER than '..Said'. Prove '..Said' where nothing that the law and all that it calls make is longer than what came in: it says more and counts as full. Else prove '..UptoSaid'. A law counts once. -/
mutual
def uptoBulk {H : Type} : DataW H → Nat
  | .lit (.string bytes) => bytes.length + 1
  | .lit _ => 1
  | .nil => 1
  | .ptr d => uptoBulk d + 1
  | .slice elems spare => uptoBulkAll elems + uptoBulkAll spare + 1
  | .agg parts => uptoBulkAll parts + 1
  | .iface _ d => uptoBulk d + 1
  | .map entries => uptoBulkEntries entries + 1
  | .held _ => 1
def uptoBulkAll {H : Type} : List (DataW H) → Nat
  | [] => 0
  | d :: r => uptoBulk d + uptoBulkAll r
def uptoBulkEntries {H : Type} : List (Lit × DataW H) → Nat
  | [] => 0
  | x :: r => uptoBulkEntry x + uptoBulkEntries r
def uptoBulkEntry {H : Type} : Lit × DataW H → Nat
  | (.string bytes, d) => bytes.length + uptoBulk d + 1
  | (_, d) => uptoBulk d + 1
 end
def uptoSmall : (H : Type) → List (DataW H) → Bool := fun _ ds => decide (uptoBulkAll ds ≤ 1048576)
def OpenSpec.upto (s : _root_.Go.ChangeSpec) : _root_.Go.OpenSpec := { _root_.Go.OpenSpec.ofChange s with cond := some uptoSmall }

/-- 'respitelaw08.StepApart', WHERE WHAT IT READS IS OF BULK AT MOST 1048576: true; the input reads as it did. -/
def stepApartUptoRow : OpenClaim := { program := "ytgahcoccodhkmaagreat", sum := "e560355288d09d35a30eb8849b9d71cd95d81034c565076768ee1f14d2099c75", func := "respite/respitelaw08.StepApart", spec := "stepApart", unfollowed := true, recurses := true, apart := false, narrowed := true }
def StepApartUptoSaid : Prop := stepApartUptoRow.holds Tryz.pinned (OpenSpec.upto stepApartSpec)

/-- 'respitelaw08.StepMakes', WHERE WHAT IT READS IS OF BULK AT MOST 1048576: true; the input reads as it did. -/
def stepMakesUptoRow : OpenClaim := { program := "ytgahcoccodhkmaagreat", sum := "e560355288d09d35a30eb8849b9d71cd95d81034c565076768ee1f14d2099c75", func := "respite/respitelaw08.StepMakes", spec := "stepMakes", unfollowed := true, recurses := true, apart := false, narrowed := true }
def StepMakesUptoSaid : Prop := stepMakesUptoRow.holds Tryz.pinned (OpenSpec.upto stepMakesSpec)

/-- 'respitelaw08.StepStops', WHERE WHAT IT READS IS OF BULK AT MOST 1048576: true; the input reads as it did. -/
def stepStopsUptoRow : OpenClaim := { program := "ytgahcoccodhkmaagreat", sum := "e560355288d09d35a30eb8849b9d71cd95d81034c565076768ee1f14d2099c75", func := "respite/respitelaw08.StepStops", spec := "stepStops", unfollowed := true, recurses := true, apart := false, narrowed := true }
def StepStopsUptoSaid : Prop := stepStopsUptoRow.holds Tryz.pinned (OpenSpec.upto stepStopsSpec)

/-- 'respitelaw08.StepBroad', WHERE WHAT IT READS IS OF BULK AT MOST 1048576: true; the input reads as it did. -/
def stepBroadUptoRow : OpenClaim := { program := "ytgahcoccodhkmaagreat", sum := "e560355288d09d35a30eb8849b9d71cd95d81034c565076768ee1f14d2099c75", func := "respite/respitelaw08.StepBroad", spec := "stepBroad", unfollowed := true, recurses := true, apart := false, narrowed := true }
def StepBroadUptoSaid : Prop := stepBroadUptoRow.holds Tryz.pinned (OpenSpec.upto stepBroadSpec)

/-- 'respitelaw08.StepDoes', WHERE WHAT IT READS IS OF BULK AT MOST 1048576: true; the input reads as it did. -/
def stepDoesUptoRow : OpenClaim := { program := "ytgahcoccodhkmaagreat", sum := "e560355288d09d35a30eb8849b9d71cd95d81034c565076768ee1f14d2099c75", func := "respite/respitelaw08.StepDoes", spec := "stepDoes", unfollowed := true, recurses := true, apart := false, narrowed := true }
def StepDoesUptoSaid : Prop := stepDoesUptoRow.holds Tryz.pinned (OpenSpec.upto stepDoesSpec)

end Rows
end Go.Proofs.YtgahcoccodhkmaaGreat
